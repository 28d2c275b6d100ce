/-
 Task13, Only, TapeF, Spread, Other, Vector: what the statements of this layer share.
-/
import Derived.BigQuiet
import Derived.Test.YtpggflcapfkgpaaMal
namespace Go.Proofs.Ytpggflcapfkgpaa
open Go.RowKit Fm
set_option linter.unusedVariables false
set_option maxRecDepth 100000

theorem load_task {w : World} {b : Nat} {x0 x1 x2 x3 x4 x5 x6 x7 : Value} (h : Vs w b [x0, x1, x2, x3, x4, x5, x6, x7]) : (loadVar 34 ⟨b, 0, none⟩).run Try.prog w = .ok (.agg #[x0, x1, x2, x3, x4, x5, x6, x7]) w := by
 obtain ⟨⟨c0, c1, c2, c3, c4, c5, c6, c7⟩, ⟨f0, f1, f2, f3, f4, f5, f6, f7⟩, hl⟩ := h.get8
 go_simp
theorem results_task {fn : Func} {p : Tmp} {tmps : Array Value} {w : World} {b : Nat} {x0 x1 x2 x3 x4 x5 x6 x7 : Value} (hv : Vs w b [x0, x1, x2, x3, x4, x5, x6, x7]) (h : fn.results = #[.cell p 34]) (hp : tmps.getD p undef = .pointer (some ⟨b, 0, none⟩)) :
  (results fn tmps).run Try.prog w = .ok (.agg #[x0, x1, x2, x3, x4, x5, x6, x7]) w := by
 have hl := load_task hv
 rw [Array.getD_eq_getD_getElem?] at hp
 simp only [results, h]
 simp [hp, asAddr, hl]

set_option maxHeartbeats 4000000 in
theorem law13_Task (k f b l m c p t : Int) (hk : 0 ≤ k ∧ k ≤ 255) (hf : 0 ≤ f ∧ f ≤ 255) (hb : 0 ≤ b ∧ b ≤ 255) (hl : 0 ≤ l ∧ l ≤ 255) (hm : 0 ≤ m ∧ m ≤ 255) (hc : 0 ≤ c ∧ c ≤ 255) (hp : 0 ≤ p ∧ p ≤ 255) (ht : 0 ≤ t ∧ t ≤ 255) :
  ∃ (F : Nat) (y : CK) (s : ByteArray), IsF F ∧ y.small ∧ s.size ≤ 32 ∧ ∀ w, Calls Try.prog 5 #[.agg #[.int .u8 k, .int .u8 f, .int .u8 b, .int .u8 l, .int .u8 m, .int .u8 c, .int .u8 p, .int .u8 t]] w fun e w' =>
   e = .returned (.agg #[.int .u8 (y.k : Nat), .int .u8 F, .int .i64 (y.b : Nat), .int .i64 (y.l : Nat), .int .i64 (y.m : Nat), .int .i64 (y.c : Nat), .int .i64 (1 + p % 3), .string s]) ∧ Below w.heap.size w w' := by
 obtain ⟨F, y, hF, hy, hCIR⟩ := law10_Circuit k f b l m c hk.1 hk.2 hf.1 hf.2 hb.1 hb.2 hl.1 hl.2 hm.1 hm.2 hc.1 hc.2
 have HCIR := Lib.hid hCIR
 unfold CK.val at HCIR
 obtain ⟨s, hs, hS⟩ : ∃ s : ByteArray, s.size ≤ 32 ∧ ((t % 3 = 0 ∧ s = ⟨#[]⟩) ∨ (t % 3 = 1 ∧ s = ⟨#[116]⟩) ∨ (t % 3 = 2 ∧ s = ⟨#[116, 97, 108, 108, 121]⟩)) := by
  rcases (by omega : t % 3 = 0 ∨ t % 3 = 1 ∨ t % 3 = 2) with h | h | h
  ·exact ⟨⟨#[]⟩, by decide, .inl ⟨h, rfl⟩⟩
  ·exact ⟨⟨#[116]⟩, by decide, .inr (.inl ⟨h, rfl⟩)⟩
  ·exact ⟨⟨#[116, 97, 108, 108, 121]⟩, by decide, .inr (.inr ⟨h, rfl⟩)⟩
 refine ⟨F, y, s, hF, hy, hs, fun w => ?_⟩
 generalize ((y.k : Nat) : Int) = yk at *
 generalize ((y.b : Nat) : Int) = yb at *
 generalize ((y.l : Nat) : Int) = yl at *
 generalize ((y.m : Nat) : Int) = ym at *
 generalize ((y.c : Nat) : Int) = yc at *
 generalize ((F : Nat) : Int) = yf at *
 have hpm : p.tmod 3 = p % 3 := Int.tmod_eq_emod_of_nonneg hp.1
 obtain ⟨pm, hpe⟩ : ∃ pm, p % 3 = pm := ⟨_, rfl⟩
 have hpm0 : 0 ≤ pm ∧ pm ≤ 2 := by omega
 obtain ⟨hpm1, hpm2⟩ := hpm0
 rw [hpe] at hpm ⊢
 have hw1 : IntKind.i64.wrap pm = pm := IntWalk.i64_in _ (by omega)
 have hw2 : IntKind.i64.wrap (1 + pm) = 1 + pm := IntWalk.i64_in _ (by omega)
 have hw3 : IntKind.u8.wrap pm = pm := IntWalk.u8_in _ (by omega)
 clear hy hF hCIR hpe hs
 have hb00 : Below w.heap.size w w := Below.refl _ _
 go_enter Try.func5, Try.ntmps5
 go_upto_region 1 with fail
 have hz := (Vs.new w [.int .u8 k, .int .u8 f, .int .u8 b, .int .u8 l, .int .u8 m, .int .u8 c, .int .u8 p, .int .u8 t] #[.int .u8 k, .int .u8 f, .int .u8 b, .int .u8 l, .int .u8 m, .int .u8 c, .int .u8 p, .int .u8 t] 25 rfl).alloc (.cells #[.int .u8 0, .int .u8 0, .int .i64 0, .int .i64 0, .int .i64 0, .int .i64 0, .int .i64 0, .string ⟨#[]⟩] 34)
 have hr := Vs.new (w.alloc (.cells #[.int .u8 k, .int .u8 f, .int .u8 b, .int .u8 l, .int .u8 m, .int .u8 c, .int .u8 p, .int .u8 t] 25)) [.int .u8 0, .int .u8 0, .int .i64 0, .int .i64 0, .int .i64 0, .int .i64 0, .int .i64 0, .string ⟨#[]⟩] #[.int .u8 0, .int .u8 0, .int .i64 0, .int .i64 0, .int .i64 0, .int .i64 0, .int .i64 0, .string ⟨#[]⟩] 34 rfl
 simp only [World.size_alloc] at hr
 have hb01 : Below w.heap.size w ((w.alloc (.cells #[.int .u8 k, .int .u8 f, .int .u8 b, .int .u8 l, .int .u8 m, .int .u8 c, .int .u8 p, .int .u8 t] 25)).alloc (.cells #[.int .u8 0, .int .u8 0, .int .i64 0, .int .i64 0, .int .i64 0, .int .i64 0, .int .i64 0, .string ⟨#[]⟩] 34)) := by repeat (first | exact bA | with_reducible assumption | apply bB)
 have hszn : w.heap.size + 2 ≤ ((w.alloc (.cells #[.int .u8 k, .int .u8 f, .int .u8 b, .int .u8 l, .int .u8 m, .int .u8 c, .int .u8 p, .int .u8 t] 25)).alloc (.cells #[.int .u8 0, .int .u8 0, .int .i64 0, .int .i64 0, .int .i64 0, .int .i64 0, .int .i64 0, .string ⟨#[]⟩] 34)).heap.size := by simp only [World.size_alloc]; omega
 generalize ((w.alloc (.cells #[.int .u8 k, .int .u8 f, .int .u8 b, .int .u8 l, .int .u8 m, .int .u8 c, .int .u8 p, .int .u8 t] 25)).alloc (.cells #[.int .u8 0, .int .u8 0, .int .i64 0, .int .i64 0, .int .i64 0, .int .i64 0, .int .i64 0, .string ⟨#[]⟩] 34)) = w1 at hz hr hb01 hszn ⊢
 clear hb00
 rcases hS with ⟨hq, rfl⟩ | ⟨hq, rfl⟩ | ⟨hq, rfl⟩
 ·skip
  have htm : t.tmod 3 = 0 := by rw [Int.tmod_eq_emod_of_nonneg ht.1]; exact hq
  clear hq
  obtain ⟨⟨z0, z1, z2, z3, z4, z5, z6, z7⟩, ⟨z8, z9, z10, z11, z12, z13, z14, z15⟩, z16⟩ := hz.get8
  refine region_G (n := 15) (m := 16) (f := 15) (by kernel_rfl) (by kernel_rfl) rfl ?_
  refine WpG.vD 0 (some 3) ?_ rfl rfl (by kernel_rfl) (fun _ _ _ h => h) rfl (fun wz hwz => ?_) ?_
  rotate_left
  ·go_simp; try (with_reducible rfl)
  simp only [Zp, Zq, Zr, Zs]
  refine WpG.vD 1 (some 4) ?_ rfl rfl (by kernel_rfl) (fun _ _ _ h => h) rfl (fun wz hwz => ?_) ?_
  rotate_left
  ·(obtain ⟨hcz, hfz⟩ := bcell (hwz); go_simp; try (with_reducible rfl))
  simp only [Zp, Zq, Zr, Zs]
  refine WpG.takeD 2 (some 5) rfl rfl (by kernel_rfl) (fun _ _ _ h => h) (.call rfl (fun wz hwz => HCIR.out wz) (fun wz hwz => ?_)) ?_
  ·go_simp; try (with_reducible rfl)
  simp only [Zp, Zq, Zr, Zs]
  refine WpG.vD 3 (some 6) ?_ rfl rfl (by kernel_rfl) (fun _ _ _ h => h) rfl (fun wz hwz => ?_) ?_
  rotate_left
  ·go_simp; try (with_reducible rfl)
  simp only [Zp, Zq, Zr, Zs]
  refine WpG.vD 4 (some 7) ?_ rfl rfl (by kernel_rfl) (fun _ _ _ h => h) rfl (fun wz hwz => ?_) ?_
  rotate_left
  ·(obtain ⟨hcz, hfz⟩ := bcell (hwz); go_simp; try (with_reducible rfl))
  simp only [Zp, Zq, Zr, Zs]
  refine WpG.vD 5 (some 8) ?_ rfl rfl (by kernel_rfl) (fun _ _ _ h => h) rfl (fun wz hwz => ?_) ?_
  rotate_left
  ·go_simp; try (with_reducible rfl)
  simp only [Zp, Zq, Zr, Zs]
  refine WpG.vD 6 (some 9) ?_ rfl rfl (by kernel_rfl) (fun _ _ _ h => h) rfl (fun wz hwz => ?_) ?_
  rotate_left
  ·go_simp; try (with_reducible rfl)
  simp only [Zp, Zq, Zr, Zs]
  refine WpG.vD 7 (some 10) ?_ rfl rfl (by kernel_rfl) (fun _ _ _ h => h) rfl (fun wz hwz => ?_) ?_
  rotate_left
  ·go_simp; try (with_reducible rfl)
  simp only [Zp, Zq, Zr, Zs]
  refine WpG.vD 9 (some 12) ?_ rfl rfl (by kernel_rfl) (fun _ _ _ h => h) rfl (fun wz hwz => ?_) ?_
  rotate_left
  ·go_simp; try (with_reducible rfl)
  simp only [Zp, Zq, Zr, Zs]
  refine WpG.vD 10 (some 13) ?_ rfl rfl (by kernel_rfl) (fun _ _ _ h => h) rfl (fun wz hwz => ?_) ?_
  rotate_left
  ·(obtain ⟨hcz, hfz⟩ := bcell (hwz); go_simp; try (with_reducible rfl))
  simp only [Zp, Zq, Zr, Zs]
  refine WpG.vD 11 (some 14) ?_ rfl rfl (by kernel_rfl) (fun _ _ _ h => h) rfl (fun wz hwz => ?_) ?_
  rotate_left
  ·go_simp; try (with_reducible rfl)
  simp only [Zp, Zq, Zr, Zs]
  refine WpG.oneD 8 (some 11) rfl rfl (by kernel_rfl) (fun b : Nat => Value.slice (some ⟨b, 0, none⟩) 3 3) (fun b wz => w1.heap.size ≤ b ∧ Vs wz b [.string ⟨#[]⟩, .string ⟨#[116]⟩, .string ⟨#[116, 97, 108, 108, 121]⟩]) (fun _ _ _ h hb => ⟨h.1, h.2.call hb⟩) (Fresh.slice 3 3 [.string ⟨#[]⟩, .string ⟨#[116]⟩, .string ⟨#[116, 97, 108, 108, 121]⟩] 9 rfl (fun wz hwz => (hwz).size) (fun wz hwz => by go_simp; try (with_reducible rfl)) (R := fun b wz => Vs wz b [.string ⟨#[]⟩, .string ⟨#[116]⟩, .string ⟨#[116, 97, 108, 108, 121]⟩]) (fun wz hwz => Vs.new wz _ _ _ rfl)) (fun nb w0 hw0 hR0 => ?_)
  simp only [Zp, Zq, Zr, Zs]
  refine WpG.vD 12 (some 15) ?_ rfl rfl (by kernel_rfl) (fun _ _ _ h => h) rfl (fun wz hwz => ?_) ?_
  rotate_left
  ·go_simp; try (with_reducible rfl)
  simp only [Zp, Zq, Zr, Zs]
  refine WpG.vD 13 (some 16) ?_ rfl rfl (by kernel_rfl) (fun _ _ _ h => h) rfl (fun wz hwz => ?_) ?_
  rotate_left
  ·(obtain ⟨hcz, hfz⟩ := bcell (hwz.1); obtain ⟨g0, g1, g2, g3, g4, g5, g6⟩ := (hwz.2).2.get3; go_simp; try (with_reducible rfl))
  simp only [Zp, Zq, Zr, Zs]
  refine WpG.vD 14 (some 17) ?_ rfl rfl (by kernel_rfl) (fun _ _ _ h => h) rfl (fun wz hwz => ?_) ?_
  rotate_left
  ·go_simp; try (with_reducible rfl)
  simp only [Zp, Zq, Zr, Zs]
  refine WpG.done (by kernel_rfl) (fun w2 hS => ?_)
  (try simp only [List.drop_succ_cons]); (try simp only [List.drop_zero]); (try simp only [Nat.reduceSub]); (try simp only [List.take_succ_cons]); (try simp only [List.take_zero])
  obtain ⟨hb2, _⟩ := hS
  clear z0 z1 z2 z3 z4 z5 z6 z7 z8 z9 z10 z11 z12 z13 z14 z15 z16
  replace hb01 := bl_call hb01 (Nat.le_refl _) hb2
  replace hz := hz.call hb2
  replace hr := hr.call hb2
  clear hb2
  have hrl := hr.lt
  obtain ⟨⟨r0, r1, r2, r3, r4, r5, r6, r7⟩, ⟨r8, r9, r10, r11, r12, r13, r14, r15⟩, r16⟩ := hr.get8
  go_wp2_with fail
  have hS8 := ((((((((hr.put 0 (by simp) (.int .u8 yk)).put 1 (by simp) (.int .u8 yf)).put 2 (by simp) (.int .i64 yb)).put 3 (by simp) (.int .i64 yl)).put 4 (by simp) (.int .i64 ym)).put 5 (by simp) (.int .i64 yc)).put 6 (by simp) (.int .i64 (1 + pm))).put 7 (by simp) (.string ⟨#[]⟩))
  have hB8 := (bl_set (p := ⟨w.heap.size + 1, 7, none⟩) (bl_set (p := ⟨w.heap.size + 1, 6, none⟩) (bl_set (p := ⟨w.heap.size + 1, 5, none⟩) (bl_set (p := ⟨w.heap.size + 1, 4, none⟩) (bl_set (p := ⟨w.heap.size + 1, 3, none⟩) (bl_set (p := ⟨w.heap.size + 1, 2, none⟩) (bl_set (p := ⟨w.heap.size + 1, 1, none⟩) (bl_set (p := ⟨w.heap.size + 1, 0, none⟩) hb01 (by dsimp only; omega) (.int .u8 yk)) (by dsimp only; omega) (.int .u8 yf)) (by dsimp only; omega) (.int .i64 yb)) (by dsimp only; omega) (.int .i64 yl)) (by dsimp only; omega) (.int .i64 ym)) (by dsimp only; omega) (.int .i64 yc)) (by dsimp only; omega) (.int .i64 (1 + pm))) (by dsimp only; omega) (.string ⟨#[]⟩))
  simp only [List.set_cons_zero, List.set_cons_succ] at hS8
  exact bodyPost_ret (results_task (b := w.heap.size + 1) hS8 rfl rfl) rfl ⟨rfl, hB8⟩
 ·skip
  have htm : t.tmod 3 = 1 := by rw [Int.tmod_eq_emod_of_nonneg ht.1]; exact hq
  clear hq
  obtain ⟨⟨z0, z1, z2, z3, z4, z5, z6, z7⟩, ⟨z8, z9, z10, z11, z12, z13, z14, z15⟩, z16⟩ := hz.get8
  refine region_G (n := 15) (m := 16) (f := 15) (by kernel_rfl) (by kernel_rfl) rfl ?_
  refine WpG.vD 0 (some 3) ?_ rfl rfl (by kernel_rfl) (fun _ _ _ h => h) rfl (fun wz hwz => ?_) ?_
  rotate_left
  ·go_simp; try (with_reducible rfl)
  simp only [Zp, Zq, Zr, Zs]
  refine WpG.vD 1 (some 4) ?_ rfl rfl (by kernel_rfl) (fun _ _ _ h => h) rfl (fun wz hwz => ?_) ?_
  rotate_left
  ·(obtain ⟨hcz, hfz⟩ := bcell (hwz); go_simp; try (with_reducible rfl))
  simp only [Zp, Zq, Zr, Zs]
  refine WpG.takeD 2 (some 5) rfl rfl (by kernel_rfl) (fun _ _ _ h => h) (.call rfl (fun wz hwz => HCIR.out wz) (fun wz hwz => ?_)) ?_
  ·go_simp; try (with_reducible rfl)
  simp only [Zp, Zq, Zr, Zs]
  refine WpG.vD 3 (some 6) ?_ rfl rfl (by kernel_rfl) (fun _ _ _ h => h) rfl (fun wz hwz => ?_) ?_
  rotate_left
  ·go_simp; try (with_reducible rfl)
  simp only [Zp, Zq, Zr, Zs]
  refine WpG.vD 4 (some 7) ?_ rfl rfl (by kernel_rfl) (fun _ _ _ h => h) rfl (fun wz hwz => ?_) ?_
  rotate_left
  ·(obtain ⟨hcz, hfz⟩ := bcell (hwz); go_simp; try (with_reducible rfl))
  simp only [Zp, Zq, Zr, Zs]
  refine WpG.vD 5 (some 8) ?_ rfl rfl (by kernel_rfl) (fun _ _ _ h => h) rfl (fun wz hwz => ?_) ?_
  rotate_left
  ·go_simp; try (with_reducible rfl)
  simp only [Zp, Zq, Zr, Zs]
  refine WpG.vD 6 (some 9) ?_ rfl rfl (by kernel_rfl) (fun _ _ _ h => h) rfl (fun wz hwz => ?_) ?_
  rotate_left
  ·go_simp; try (with_reducible rfl)
  simp only [Zp, Zq, Zr, Zs]
  refine WpG.vD 7 (some 10) ?_ rfl rfl (by kernel_rfl) (fun _ _ _ h => h) rfl (fun wz hwz => ?_) ?_
  rotate_left
  ·go_simp; try (with_reducible rfl)
  simp only [Zp, Zq, Zr, Zs]
  refine WpG.vD 9 (some 12) ?_ rfl rfl (by kernel_rfl) (fun _ _ _ h => h) rfl (fun wz hwz => ?_) ?_
  rotate_left
  ·go_simp; try (with_reducible rfl)
  simp only [Zp, Zq, Zr, Zs]
  refine WpG.vD 10 (some 13) ?_ rfl rfl (by kernel_rfl) (fun _ _ _ h => h) rfl (fun wz hwz => ?_) ?_
  rotate_left
  ·(obtain ⟨hcz, hfz⟩ := bcell (hwz); go_simp; try (with_reducible rfl))
  simp only [Zp, Zq, Zr, Zs]
  refine WpG.vD 11 (some 14) ?_ rfl rfl (by kernel_rfl) (fun _ _ _ h => h) rfl (fun wz hwz => ?_) ?_
  rotate_left
  ·go_simp; try (with_reducible rfl)
  simp only [Zp, Zq, Zr, Zs]
  refine WpG.oneD 8 (some 11) rfl rfl (by kernel_rfl) (fun b : Nat => Value.slice (some ⟨b, 0, none⟩) 3 3) (fun b wz => w1.heap.size ≤ b ∧ Vs wz b [.string ⟨#[]⟩, .string ⟨#[116]⟩, .string ⟨#[116, 97, 108, 108, 121]⟩]) (fun _ _ _ h hb => ⟨h.1, h.2.call hb⟩) (Fresh.slice 3 3 [.string ⟨#[]⟩, .string ⟨#[116]⟩, .string ⟨#[116, 97, 108, 108, 121]⟩] 9 rfl (fun wz hwz => (hwz).size) (fun wz hwz => by go_simp; try (with_reducible rfl)) (R := fun b wz => Vs wz b [.string ⟨#[]⟩, .string ⟨#[116]⟩, .string ⟨#[116, 97, 108, 108, 121]⟩]) (fun wz hwz => Vs.new wz _ _ _ rfl)) (fun nb w0 hw0 hR0 => ?_)
  simp only [Zp, Zq, Zr, Zs]
  refine WpG.vD 12 (some 15) ?_ rfl rfl (by kernel_rfl) (fun _ _ _ h => h) rfl (fun wz hwz => ?_) ?_
  rotate_left
  ·go_simp; try (with_reducible rfl)
  simp only [Zp, Zq, Zr, Zs]
  refine WpG.vD 13 (some 16) ?_ rfl rfl (by kernel_rfl) (fun _ _ _ h => h) rfl (fun wz hwz => ?_) ?_
  rotate_left
  ·(obtain ⟨hcz, hfz⟩ := bcell (hwz.1); obtain ⟨g0, g1, g2, g3, g4, g5, g6⟩ := (hwz.2).2.get3; go_simp; try (with_reducible rfl))
  simp only [Zp, Zq, Zr, Zs]
  refine WpG.vD 14 (some 17) ?_ rfl rfl (by kernel_rfl) (fun _ _ _ h => h) rfl (fun wz hwz => ?_) ?_
  rotate_left
  ·go_simp; try (with_reducible rfl)
  simp only [Zp, Zq, Zr, Zs]
  refine WpG.done (by kernel_rfl) (fun w2 hS => ?_)
  (try simp only [List.drop_succ_cons]); (try simp only [List.drop_zero]); (try simp only [Nat.reduceSub]); (try simp only [List.take_succ_cons]); (try simp only [List.take_zero])
  obtain ⟨hb2, _⟩ := hS
  clear z0 z1 z2 z3 z4 z5 z6 z7 z8 z9 z10 z11 z12 z13 z14 z15 z16
  replace hb01 := bl_call hb01 (Nat.le_refl _) hb2
  replace hz := hz.call hb2
  replace hr := hr.call hb2
  clear hb2
  have hrl := hr.lt
  obtain ⟨⟨r0, r1, r2, r3, r4, r5, r6, r7⟩, ⟨r8, r9, r10, r11, r12, r13, r14, r15⟩, r16⟩ := hr.get8
  go_wp2_with fail
  have hS8 := ((((((((hr.put 0 (by simp) (.int .u8 yk)).put 1 (by simp) (.int .u8 yf)).put 2 (by simp) (.int .i64 yb)).put 3 (by simp) (.int .i64 yl)).put 4 (by simp) (.int .i64 ym)).put 5 (by simp) (.int .i64 yc)).put 6 (by simp) (.int .i64 (1 + pm))).put 7 (by simp) (.string ⟨#[116]⟩))
  have hB8 := (bl_set (p := ⟨w.heap.size + 1, 7, none⟩) (bl_set (p := ⟨w.heap.size + 1, 6, none⟩) (bl_set (p := ⟨w.heap.size + 1, 5, none⟩) (bl_set (p := ⟨w.heap.size + 1, 4, none⟩) (bl_set (p := ⟨w.heap.size + 1, 3, none⟩) (bl_set (p := ⟨w.heap.size + 1, 2, none⟩) (bl_set (p := ⟨w.heap.size + 1, 1, none⟩) (bl_set (p := ⟨w.heap.size + 1, 0, none⟩) hb01 (by dsimp only; omega) (.int .u8 yk)) (by dsimp only; omega) (.int .u8 yf)) (by dsimp only; omega) (.int .i64 yb)) (by dsimp only; omega) (.int .i64 yl)) (by dsimp only; omega) (.int .i64 ym)) (by dsimp only; omega) (.int .i64 yc)) (by dsimp only; omega) (.int .i64 (1 + pm))) (by dsimp only; omega) (.string ⟨#[116]⟩))
  simp only [List.set_cons_zero, List.set_cons_succ] at hS8
  exact bodyPost_ret (results_task (b := w.heap.size + 1) hS8 rfl rfl) rfl ⟨rfl, hB8⟩
 ·skip
  have htm : t.tmod 3 = 2 := by rw [Int.tmod_eq_emod_of_nonneg ht.1]; exact hq
  clear hq
  obtain ⟨⟨z0, z1, z2, z3, z4, z5, z6, z7⟩, ⟨z8, z9, z10, z11, z12, z13, z14, z15⟩, z16⟩ := hz.get8
  refine region_G (n := 15) (m := 16) (f := 15) (by kernel_rfl) (by kernel_rfl) rfl ?_
  refine WpG.vD 0 (some 3) ?_ rfl rfl (by kernel_rfl) (fun _ _ _ h => h) rfl (fun wz hwz => ?_) ?_
  rotate_left
  ·go_simp; try (with_reducible rfl)
  simp only [Zp, Zq, Zr, Zs]
  refine WpG.vD 1 (some 4) ?_ rfl rfl (by kernel_rfl) (fun _ _ _ h => h) rfl (fun wz hwz => ?_) ?_
  rotate_left
  ·(obtain ⟨hcz, hfz⟩ := bcell (hwz); go_simp; try (with_reducible rfl))
  simp only [Zp, Zq, Zr, Zs]
  refine WpG.takeD 2 (some 5) rfl rfl (by kernel_rfl) (fun _ _ _ h => h) (.call rfl (fun wz hwz => HCIR.out wz) (fun wz hwz => ?_)) ?_
  ·go_simp; try (with_reducible rfl)
  simp only [Zp, Zq, Zr, Zs]
  refine WpG.vD 3 (some 6) ?_ rfl rfl (by kernel_rfl) (fun _ _ _ h => h) rfl (fun wz hwz => ?_) ?_
  rotate_left
  ·go_simp; try (with_reducible rfl)
  simp only [Zp, Zq, Zr, Zs]
  refine WpG.vD 4 (some 7) ?_ rfl rfl (by kernel_rfl) (fun _ _ _ h => h) rfl (fun wz hwz => ?_) ?_
  rotate_left
  ·(obtain ⟨hcz, hfz⟩ := bcell (hwz); go_simp; try (with_reducible rfl))
  simp only [Zp, Zq, Zr, Zs]
  refine WpG.vD 5 (some 8) ?_ rfl rfl (by kernel_rfl) (fun _ _ _ h => h) rfl (fun wz hwz => ?_) ?_
  rotate_left
  ·go_simp; try (with_reducible rfl)
  simp only [Zp, Zq, Zr, Zs]
  refine WpG.vD 6 (some 9) ?_ rfl rfl (by kernel_rfl) (fun _ _ _ h => h) rfl (fun wz hwz => ?_) ?_
  rotate_left
  ·go_simp; try (with_reducible rfl)
  simp only [Zp, Zq, Zr, Zs]
  refine WpG.vD 7 (some 10) ?_ rfl rfl (by kernel_rfl) (fun _ _ _ h => h) rfl (fun wz hwz => ?_) ?_
  rotate_left
  ·go_simp; try (with_reducible rfl)
  simp only [Zp, Zq, Zr, Zs]
  refine WpG.vD 9 (some 12) ?_ rfl rfl (by kernel_rfl) (fun _ _ _ h => h) rfl (fun wz hwz => ?_) ?_
  rotate_left
  ·go_simp; try (with_reducible rfl)
  simp only [Zp, Zq, Zr, Zs]
  refine WpG.vD 10 (some 13) ?_ rfl rfl (by kernel_rfl) (fun _ _ _ h => h) rfl (fun wz hwz => ?_) ?_
  rotate_left
  ·(obtain ⟨hcz, hfz⟩ := bcell (hwz); go_simp; try (with_reducible rfl))
  simp only [Zp, Zq, Zr, Zs]
  refine WpG.vD 11 (some 14) ?_ rfl rfl (by kernel_rfl) (fun _ _ _ h => h) rfl (fun wz hwz => ?_) ?_
  rotate_left
  ·go_simp; try (with_reducible rfl)
  simp only [Zp, Zq, Zr, Zs]
  refine WpG.oneD 8 (some 11) rfl rfl (by kernel_rfl) (fun b : Nat => Value.slice (some ⟨b, 0, none⟩) 3 3) (fun b wz => w1.heap.size ≤ b ∧ Vs wz b [.string ⟨#[]⟩, .string ⟨#[116]⟩, .string ⟨#[116, 97, 108, 108, 121]⟩]) (fun _ _ _ h hb => ⟨h.1, h.2.call hb⟩) (Fresh.slice 3 3 [.string ⟨#[]⟩, .string ⟨#[116]⟩, .string ⟨#[116, 97, 108, 108, 121]⟩] 9 rfl (fun wz hwz => (hwz).size) (fun wz hwz => by go_simp; try (with_reducible rfl)) (R := fun b wz => Vs wz b [.string ⟨#[]⟩, .string ⟨#[116]⟩, .string ⟨#[116, 97, 108, 108, 121]⟩]) (fun wz hwz => Vs.new wz _ _ _ rfl)) (fun nb w0 hw0 hR0 => ?_)
  simp only [Zp, Zq, Zr, Zs]
  refine WpG.vD 12 (some 15) ?_ rfl rfl (by kernel_rfl) (fun _ _ _ h => h) rfl (fun wz hwz => ?_) ?_
  rotate_left
  ·go_simp; try (with_reducible rfl)
  simp only [Zp, Zq, Zr, Zs]
  refine WpG.vD 13 (some 16) ?_ rfl rfl (by kernel_rfl) (fun _ _ _ h => h) rfl (fun wz hwz => ?_) ?_
  rotate_left
  ·(obtain ⟨hcz, hfz⟩ := bcell (hwz.1); obtain ⟨g0, g1, g2, g3, g4, g5, g6⟩ := (hwz.2).2.get3; go_simp; try (with_reducible rfl))
  simp only [Zp, Zq, Zr, Zs]
  refine WpG.vD 14 (some 17) ?_ rfl rfl (by kernel_rfl) (fun _ _ _ h => h) rfl (fun wz hwz => ?_) ?_
  rotate_left
  ·go_simp; try (with_reducible rfl)
  simp only [Zp, Zq, Zr, Zs]
  refine WpG.done (by kernel_rfl) (fun w2 hS => ?_)
  (try simp only [List.drop_succ_cons]); (try simp only [List.drop_zero]); (try simp only [Nat.reduceSub]); (try simp only [List.take_succ_cons]); (try simp only [List.take_zero])
  obtain ⟨hb2, _⟩ := hS
  clear z0 z1 z2 z3 z4 z5 z6 z7 z8 z9 z10 z11 z12 z13 z14 z15 z16
  replace hb01 := bl_call hb01 (Nat.le_refl _) hb2
  replace hz := hz.call hb2
  replace hr := hr.call hb2
  clear hb2
  have hrl := hr.lt
  obtain ⟨⟨r0, r1, r2, r3, r4, r5, r6, r7⟩, ⟨r8, r9, r10, r11, r12, r13, r14, r15⟩, r16⟩ := hr.get8
  go_wp2_with fail
  have hS8 := ((((((((hr.put 0 (by simp) (.int .u8 yk)).put 1 (by simp) (.int .u8 yf)).put 2 (by simp) (.int .i64 yb)).put 3 (by simp) (.int .i64 yl)).put 4 (by simp) (.int .i64 ym)).put 5 (by simp) (.int .i64 yc)).put 6 (by simp) (.int .i64 (1 + pm))).put 7 (by simp) (.string ⟨#[116, 97, 108, 108, 121]⟩))
  have hB8 := (bl_set (p := ⟨w.heap.size + 1, 7, none⟩) (bl_set (p := ⟨w.heap.size + 1, 6, none⟩) (bl_set (p := ⟨w.heap.size + 1, 5, none⟩) (bl_set (p := ⟨w.heap.size + 1, 4, none⟩) (bl_set (p := ⟨w.heap.size + 1, 3, none⟩) (bl_set (p := ⟨w.heap.size + 1, 2, none⟩) (bl_set (p := ⟨w.heap.size + 1, 1, none⟩) (bl_set (p := ⟨w.heap.size + 1, 0, none⟩) hb01 (by dsimp only; omega) (.int .u8 yk)) (by dsimp only; omega) (.int .u8 yf)) (by dsimp only; omega) (.int .i64 yb)) (by dsimp only; omega) (.int .i64 yl)) (by dsimp only; omega) (.int .i64 ym)) (by dsimp only; omega) (.int .i64 yc)) (by dsimp only; omega) (.int .i64 (1 + pm))) (by dsimp only; omega) (.string ⟨#[116, 97, 108, 108, 121]⟩))
  simp only [List.set_cons_zero, List.set_cons_succ] at hS8
  exact bodyPost_ret (results_task (b := w.heap.size + 1) hS8 rfl rfl) rfl ⟨rfl, hB8⟩

end Go.Proofs.Ytpggflcapfkgpaa

namespace Go.Proofs.Ytpggflcapfkgpaa
open Go.RowKit Fm
set_option linter.unusedVariables false
set_option maxRecDepth 100000

structure OnlySl (w : World) (b : Nat) : Prop where
 lt : b < w.heap.size
 sl : ∀ i v, w.cell? ⟨b, i, none⟩ = some v → ∃ A n c, v = Value.slice A n c

theorem OnlySl.new (w : World) (a : Array Value) (t : TypeId) (h : ∀ v, v ∈ a → ∃ A n c, v = Value.slice A n c) : OnlySl (w.alloc (.cells a t)) w.heap.size :=
 ⟨by simp, fun i v hi => by
  rw [World.cell?_alloc_at _ _ _ _ rfl] at hi
  exact h v (Array.mem_of_getElem? hi)⟩
theorem OnlySl.call {w w' : World} {b : Nat} (h : OnlySl w b) (hb : Below w.heap.size w w') : OnlySl w' b :=
 ⟨Nat.lt_of_lt_of_le h.lt hb.size, fun i v hi => h.sl i v (by rwa [World.cell?_of_block (w := w) (a := ⟨b, i, none⟩) (hb.block b h.lt)] at hi)⟩
theorem OnlySl.alloc {w : World} {b : Nat} (h : OnlySl w b) (o : Obj) : OnlySl (w.alloc o) b := h.call ((Below.refl _ _).alloc (Nat.le_refl _) o)

section
variable {f : Nat}
def SlN (r : Nat) (w : World) (B : Nat) (v : Value) (l : KL f) : Prop :=
 ∃ (A : Option Addr) (c : Nat), v = .slice A l.length c ∧ l.length ≤ c ∧ c ≤ 9223372036854775807 ∧ (0 < l.length → ∃ b o, A = some ⟨b, o, none⟩ ∧ b < B ∧ b ≠ r ∧ RowE w b o (esK l))
theorem SlK.notIn {w : World} {B r : Nat} {v : Value} {l : KL f} (h : SlK w B v l) (hr : OnlySl w r) : SlN r w B v l := by
 obtain ⟨A, c, hv, h1, h2, h3⟩ := h
 refine ⟨A, c, hv, h1, h2, fun h => ?_⟩
 obtain ⟨b, o, e, hb, hrow⟩ := h3 h
 refine ⟨b, o, e, hb, fun hbr => ?_, hrow⟩
 subst hbr
 have hlen : 0 < (esK l).length := by rw [esK_length]; exact h
 obtain ⟨A', n', c', hs⟩ := hr.sl _ _ (hrow 0 _ (List.getElem?_eq_getElem hlen)).1
 cases hs
theorem SlN.far {w : World} {B r : Nat} {v : Value} {l : KL f} (h : SlN r w B v l) (i : Nat) (x : Value) : SlN r (w.setCell ⟨r, i, none⟩ x) B v l := by
 obtain ⟨A, c, hv, h1, h2, h3⟩ := h
 refine ⟨A, c, hv, h1, h2, fun h => ?_⟩
 obtain ⟨b, o, e, hb, hne, hrow⟩ := h3 h
 refine ⟨b, o, e, hb, hne, fun j q hj => ?_⟩
 obtain ⟨g1, g2⟩ := hrow j q hj
 have hk : (w.setCell ⟨r, i, none⟩ x).heap[b]? = w.heap[b]? := Below.heap_setCell w ⟨r, i, none⟩ x b hne
 exact ⟨(World.cell?_of_block (w := w) (a := ⟨b, o + j * 2, none⟩) hk).trans g1, (World.cell?_of_block (w := w) (a := ⟨b, o + j * 2 + 1, none⟩) hk).trans g2⟩
theorem SlN.toK {w : World} {B r : Nat} {v : Value} {l : KL f} (h : SlN r w B v l) : SlK w B v l := by
 obtain ⟨A, c, hv, h1, h2, h3⟩ := h
 exact ⟨A, c, hv, h1, h2, fun h => by
  obtain ⟨b, o, e, hb, _, hrow⟩ := h3 h
  exact ⟨b, o, e, hb, hrow⟩⟩
theorem SlK.set4 {w : World} {r : Nat} {v : Value} {l : KL f} (h : SlK w w.heap.size v l) (hr : OnlySl w r) (x0 x1 x2 x3 : Value) :
  SlK ((((w.setCell ⟨r, 0, none⟩ x0).setCell ⟨r, 1, none⟩ x1).setCell ⟨r, 2, none⟩ x2).setCell ⟨r, 3, none⟩ x3) ((((w.setCell ⟨r, 0, none⟩ x0).setCell ⟨r, 1, none⟩ x1).setCell ⟨r, 2, none⟩ x2).setCell ⟨r, 3, none⟩ x3).heap.size v l := by
 have h4 := (((((h.notIn hr).far 0 x0).far 1 x1).far 2 x2).far 3 x3).toK
 simpa [World.setCell] using h4
theorem SlK.set2 {w : World} {r : Nat} {v : Value} {l : KL f} (h : SlK w w.heap.size v l) (hr : OnlySl w r) (x0 x1 : Value) :
  SlK ((w.setCell ⟨r, 0, none⟩ x0).setCell ⟨r, 1, none⟩ x1) ((w.setCell ⟨r, 0, none⟩ x0).setCell ⟨r, 1, none⟩ x1).heap.size v l := by
 have h4 := (((h.notIn hr).far 0 x0).far 1 x1).toK
 simpa [World.setCell] using h4
end

end Go.Proofs.Ytpggflcapfkgpaa

namespace Go.Proofs.Ytpggflcapfkgpaa
open Go.RowKit Fm
set_option linter.unusedVariables false
set_option maxRecDepth 100000

def Lo (lo : Nat) (v : Value) : Prop := ∀ p n c, v = Value.slice (some p) n c → lo ≤ p.block
theorem Lo.mono {lo lo' : Nat} {v : Value} (h : Lo lo v) (hl : lo' ≤ lo) : Lo lo' v := fun p n c e => Nat.le_trans hl (h p n c e)
theorem Lo.mk {lo g o n c : Nat} (h : lo ≤ g) : Lo lo (.slice (some ⟨g, o, none⟩) n c) := fun p n c e => by
 injection e with e1
 injection e1 with e2
 rw [← e2]
 exact h
theorem Lo.of_own {w : World} {base : Nat} {e : TypeId} {size : Nat} {v : Value} {n : Nat} {xs : List Value} (h : w.ownsRow base e size v n xs) : Lo base v := by
 rcases h.2 with ⟨rfl, _⟩ | ⟨g, cap, cur, rfl, hb, _⟩
 ·intro p n c e
  cases e
 ·exact Lo.mk hb

set_option maxHeartbeats 4000000 in
theorem tape_SplitLo (f m : Int) (hf : FM f m) (va vb : Value) (xs ys : List E) (w : World) (hx : SlE w w.heap.size va xs) (hy : SlE w w.heap.size vb ys) (hl : xs.length = ys.length) (hn : xs.length ≤ 1099511627776)
  (ix : AllIn m xs) (iy : AllIn m ys) :
  Calls Try.prog 29 #[.int .u8 f, va, vb] w fun e w' => ∃ u v : Value, e = .returned (.tuple #[.agg #[u, v], .int .i64 0]) ∧ SlE w' w'.heap.size u (zipO (· - ·) f m xs ys) ∧ SlE w' w'.heap.size v ys ∧ Lo w.heap.size u ∧ Lo w.heap.size v ∧ Below w.heap.size w w' := by
 have hx0 := hx
 have hy0 := hy
 obtain ⟨⟨A, c, rfl, hc, hcm, hA⟩, hokx⟩ := hx
 obtain ⟨⟨A', c', rfl, hc', hcm', hA'⟩, hoky⟩ := hy
 have hbf : (f == 1 || f == 2) = true := by rcases hf.or with ⟨rfl, _⟩ | ⟨rfl, _⟩ <;> rfl
 have HL := Lib.hid hl
 clear hl
 go_enter Try.func29, Try.ntmps29
 go_wp2_with (go_at_call 32; refine (field_Valid f _).mono ?_; rintro e w1 ⟨rfl, rfl⟩)
 go_loopw [22] (fun i wr => ∃ k : Nat, k ≤ 2 ∧ i = .int .i64 k ∧ V2 wr w.heap.size (.slice none 0 0) (.slice none 0 0) ∧ V2 wr (w.heap.size + 1) (.slice A xs.length c) (.slice A' ys.length c') ∧ Below w.heap.size w wr) (fun i _ => 2 - (intOf i).toNat)
 case atStart =>
  have s0 := V2.new (w.alloc (.cells #[.slice none 0 0, .slice none 0 0] 46)) (.slice A xs.length c) (.slice A' ys.length c') 27
  simp only [World.size_alloc] at s0
  exact ⟨0, by omega, rfl, (V2.new w _ _ _).alloc _, s0, by repeat (first | exact bA | with_reducible assumption | apply bB | (refine bC ?_ (by dsimp only; omega)) | apply bD | apply bE | (refine bF ?_ (by assumption)))⟩
 case round =>
  obtain ⟨k, hk, rfl, hv, hs, hbw⟩ := hrel
  by_cases hlt : k < 2
  ·have hL : ∃ (L : List E) (D : Option Addr) (cc : Nat), wr.cell? ⟨w.heap.size + 1, k, none⟩ = some (.slice D L.length cc) ∧ L.length ≤ cc ∧ cc ≤ 9223372036854775807 ∧ (0 < L.length → ∃ b o, D = some ⟨b, o, none⟩ ∧ b < w.heap.size ∧ RowE w b o L) ∧ AllIn m L ∧ (∀ e, e ∈ L → okE e) := by
    have h2 : k = 0 ∨ k = 1 := by omega
    rcases h2 with rfl | rfl
    ·exact ⟨xs, A, c, hs.c0, hc, hcm, hA, ix, hokx⟩
    ·exact ⟨ys, A', c', hs.c1, hc', hcm', hA', iy, hoky⟩
   obtain ⟨L, D, cc, hcell, hLc, hLm, hLA, hLI, hLok⟩ := hL
   have hd2 : decide ((k : Int) < 2) = true := by simp; omega
   go_wp2
   obtain ⟨wo, hwo⟩ : ∃ wo : World, wo = wr := ⟨_, rfl⟩
   subst hwo
   go_loopw [28] (fun j wi => ∃ q : Nat, q ≤ L.length ∧ j = .int .i64 q ∧ V2 wi w.heap.size (.slice none 0 0) (.slice none 0 0) ∧ V2 wi (w.heap.size + 1) (.slice A xs.length c) (.slice A' ys.length c') ∧ Below w.heap.size w wi) (fun j _ => L.length - (intOf j).toNat)
   case atStart => exact ⟨0, Nat.zero_le _, rfl, hv, hs, hbw⟩
   case round =>
    obtain ⟨q, hq, rfl, hv', hs', hbw'⟩ := hrel
    by_cases hlq : q < L.length
    ·obtain ⟨b, o, rfl, hB, hr⟩ := hLA (by omega)
     obtain ⟨⟨x0, x1⟩, he⟩ : ∃ e, L[q]? = some e := ⟨_, List.getElem?_eq_getElem hlq⟩
     obtain ⟨hx0, hx1, hx2, hx3⟩ := hLok _ (List.mem_of_getElem? he)
     have hin := hLI _ (List.mem_of_getElem? he)
     obtain ⟨c0, c1⟩ := (hr.below hbw' hB) q _ he
     dsimp only at hx0 hx1 hx2 hx3 hin c0 c1
     have hd : decide (x0 + 18446744073709551616 * x1 < m) = true := by simp; omega
     clear hin hLA hr he
     go_wp2_with (go_at_call 30; refine (field_In f m _ _ _ hf (by omega) (by omega) (by omega) (by omega)).mono ?_; rintro e w6 ⟨rfl, hb6⟩)
     have hv6 := (hv'.alloc (.cells #[.int .u64 x0, .int .u64 x1] 55)).call hb6
     have hs6 := (hs'.alloc (.cells #[.int .u64 x0, .int .u64 x1] 55)).call hb6
     have hbw6 : Below w.heap.size w w6 := by repeat (first | exact bA | with_reducible assumption | apply bB | (refine bC ?_ (by dsimp only; omega)) | apply bD | apply bE | (refine bF ?_ (by assumption)))
     go_roundw
     case rel => exact ⟨q + 1, by omega, by go_num, hv6, hs6, hbw6⟩
     case measure => simp [intOf]; omega
    ·obtain rfl : q = L.length := by omega
     go_wp2
     go_roundw
     case rel => exact ⟨k + 1, by omega, by go_num, hv', hs', hbw'⟩
     case measure => simp [intOf]; omega
  ·obtain rfl : k = 2 := by omega
   have hxr := (hx0.below hbw).mono hbw.size
   have hyr := (hy0.below hbw).mono hbw.size
   go_wp2_with fail
   refine (field_SubVec f m hf _ _ xs ys _ hxr hyr HL.out hn).mono ?_
   rintro e w1 ⟨g, rfl, hB, hg, hb1⟩
   have HG := Lib.hid (Nat.le_trans hbw.size hg)
   have HW1 := Lib.hid (Nat.le_trans hbw.size hb1.size)
   have hv1 := hv.call hb1
   have hb1a : Below w1.heap.size w1 (w1.alloc (.cells #[] 55)) := (Below.refl _ _).alloc (Nat.le_refl _) _
   have HYR : 0 < ys.length → ∃ b o, A' = some ⟨b, o, none⟩ ∧ RowE (w1.alloc (.cells #[] 55)) b o ys := by
    intro h
    obtain ⟨b, o, h1, h2, h3⟩ := hA' h
    exact ⟨b, o, h1, ((h3.below hbw h2).call hb1).call hb1a⟩
   have hown0 : (w1.alloc (.cells #[] 55)).ownsRow w1.heap.size 55 2 (.slice (some ⟨w1.heap.size, 0, none⟩) 0 0) 0 (cellsE []) := World.ownsRow_made w1 #[] 0 (Nat.le_refl _) (by unfold maxLen; omega) rfl
   have hny : ys.length ≤ 1099511627776 := by have := HL.out; omega
   have hzl : w.heap.size < w1.heap.size := hv1.lt
   have hv1' := hv1
   obtain ⟨v10, v11, v12, v13, v14⟩ := hv1'
   have hBH := Lib.hid hB
   clear hB
   go_upto_region 16 with fail
   go_wp2_with (at_builtin; (refine wpList_append_E rfl (.tmp 51) (.tmp 52) rfl w1.heap.size _ 0 [] rfl hown0 A' ys.length c' ys rfl rfl HYR (by omega) (by simp) ?_; intro v2 w2 hown2 hg2 hat2; have hb2 : Below w1.heap.size w1 w2 := hb1a.grown hg2 (by simp) (fun k hk => Nat.le_of_eq (Option.some.inj hk)); obtain ⟨v20, v21, v22, v23, v24⟩ := hv1.call hb2; obtain ⟨⟨A2, c2, hveq, _⟩, _⟩ := SlE.of_own (by simpa using hown2) hoky; have hlo2 := Lo.of_own hown2; rw [hveq]))
   refine bodyPost_ret (results_shares (b := w.heap.size) (u := .slice (some ⟨g, 0, none⟩) (zipO (· - ·) f m xs ys).length (zipO (· - ·) f m xs ys).length) (v := .slice A2 ys.length c2) ?_ rfl rfl) rfl ?_
   ·exact V2.set ⟨v20, v21, v22, v23, v24⟩ _ _
   ·have hzlen : (zipO (· - ·) f m xs ys).length ≤ 9223372036854775807 := by
     unfold zipO
     rw [List.length_zipWith]
     omega
    have hne : g ≠ w.heap.size := by have := hbw.size; have := hv.lt; omega
    refine ⟨_, _, rfl, BlkE.sl (((hBH.out.call hb2).far hne _).far hne _) hzlen (okE_zipO hf xs ys) ?_, ?_, Lo.mk HG.out, ?_, ?_⟩
    ·have := (hBH.out.call hb2).lt
     simpa [World.setCell] using this
    ·rw [← hveq]
     exact SlE.of_own (ownsRow_setCell_below (ownsRow_setCell_below (by simpa using hown2) hzl _) hzl _) hoky
    ·rw [← hveq]
     exact hlo2.mono HW1.out
    ·exact by repeat (first | exact bA | with_reducible assumption | apply bB | (refine bC ?_ (by dsimp only; omega)) | apply bD | apply bE | (refine bF ?_ (by assumption)))

section
variable {f : Nat} (hf : IsF f)
include hf
theorem tape_SplitKLo (va vb : Value) (a b : KL f) (w : World) (ha : SlK w w.heap.size va a) (hb : SlK w w.heap.size vb b) (hl : a.length = b.length) (hn : a.length ≤ 1000000) :
  Calls Try.prog 29 #[.int .u8 f, va, vb] w fun e w' => ∃ u v : Value, e = .returned (.tuple #[.agg #[u, v], .int .i64 0]) ∧ SlK w' w'.heap.size u (subL a b) ∧ SlK w' w'.heap.size v b ∧ Lo w.heap.size u ∧ Lo w.heap.size v ∧ Below w.heap.size w w' :=
 (tape_SplitLo f _ (FM.ofN hf) va vb (esK a) (esK b) w ha.toE hb.toE (by rw [esK_length, esK_length, hl]) (by rw [esK_length]; omega) (allIn_esK a) (allIn_esK b)).mono fun e w' ⟨u, v, he, hu, hv, l1, l2, hb2⟩ => by
  rw [zip_subL] at hu
  exact ⟨u, v, he, hu.toK, hv.toK, l1, l2, hb2⟩
end

end Go.Proofs.Ytpggflcapfkgpaa

namespace Go.Proofs.Ytpggflcapfkgpaa
open Go.RowKit Fm
set_option linter.unusedVariables false
set_option maxRecDepth 100000

section
variable {f : Nat} (hf : IsF f)
include hf

set_option maxHeartbeats 4000000 in
theorem tape_SpreadK (k b l m c : Int) (p : Int) (s : ByteArray) (nq : Nat) (va vb d1 d2 : Value) (a o e1 e2 : KL f) (w : World)
  (HC : Hid (∀ wz, Calls Try.prog 27 #[.agg #[.int .u8 k, .int .u8 f, .int .i64 b, .int .i64 l, .int .i64 m, .int .i64 c, .int .i64 p, .string s]] wz (RetC 0 wz)))
  (HI : Hid (∀ wz, Calls Try.prog 28 #[.agg #[.int .u8 k, .int .u8 f, .int .i64 b, .int .i64 l, .int .i64 m, .int .i64 c]] wz (RetI a.length wz)))
  (HP : Hid (∀ wz, Calls Try.prog 8 #[.agg #[.int .u8 k, .int .u8 f, .int .i64 b, .int .i64 l, .int .i64 m, .int .i64 c]] wz (RetI nq wz)))
  (ha : SlK w w.heap.size va a) (ho : SlK w w.heap.size vb o) (he1 : SlK w w.heap.size d1 e1) (he2 : SlK w w.heap.size d2 e2) (h1 : a.length = e1.length) (h2 : o.length = e2.length) (hp : IntKind.i64.wrap ((nq : Int) * p) = (o.length : Nat)) (hl1 : a.length ≤ 1000000) (hl2 : o.length ≤ 1000000) :
  Calls Try.prog 10 #[.agg #[.int .u8 k, .int .u8 f, .int .i64 b, .int .i64 l, .int .i64 m, .int .i64 c, .int .i64 p, .string s], va, vb, .agg #[d1, d2]] w fun e w' => ∃ u v x y : Value, e = .returned (.tuple #[.agg #[u, v, x, y], .int .i64 0]) ∧
   SlK w' w'.heap.size u (subL a e1) ∧ SlK w' w'.heap.size v e1 ∧ SlK w' w'.heap.size x (subL o e2) ∧ SlK w' w'.heap.size y e2 ∧ (Lo w.heap.size u ∧ Lo w.heap.size v ∧ Lo w.heap.size x ∧ Lo w.heap.size y) ∧ Below w.heap.size w w' := by
 have HS1 : Hid (∀ wz, Below w.heap.size w wz → Calls Try.prog 29 #[.int .u8 f, va, d1] wz fun e w' => ∃ u v : Value, e = .returned (.tuple #[.agg #[u, v], .int .i64 0]) ∧ SlK w' w'.heap.size u (subL a e1) ∧ SlK w' w'.heap.size v e1 ∧ Lo w.heap.size u ∧ Lo w.heap.size v ∧ Below wz.heap.size wz w') :=
  fun wz hb => (tape_SplitKLo hf va d1 a e1 wz ((ha.below hb).mono hb.size) ((he1.below hb).mono hb.size) h1 hl1).mono fun e w' ⟨u, v, h1, h2, h3, h4, h5, h6⟩ => ⟨u, v, h1, h2, h3, h4.mono hb.size, h5.mono hb.size, h6⟩
 have HS2 : Hid (∀ wz, Below w.heap.size w wz → Calls Try.prog 29 #[.int .u8 f, vb, d2] wz fun e w' => ∃ u v : Value, e = .returned (.tuple #[.agg #[u, v], .int .i64 0]) ∧ SlK w' w'.heap.size u (subL o e2) ∧ SlK w' w'.heap.size v e2 ∧ Lo w.heap.size u ∧ Lo w.heap.size v ∧ Below wz.heap.size wz w') :=
  fun wz hb => (tape_SplitKLo hf vb d2 o e2 wz ((ho.below hb).mono hb.size) ((he2.below hb).mono hb.size) h2 hl2).mono fun e w' ⟨u, v, h1, h2, h3, h4, h5, h6⟩ => ⟨u, v, h1, h2, h3, h4.mono hb.size, h5.mono hb.size, h6⟩
 obtain ⟨A, c1, rfl, _, _, _⟩ := ha
 obtain ⟨A', c2, rfl, _, _, _⟩ := ho
 clear he1 he2 h1 h2
 have hfb0 : (1 : Int) ≤ (f : Int) := by rcases hf.or with rfl | rfl <;> omega
 have hfb1 : (f : Int) ≤ 2 := by rcases hf.or with rfl | rfl <;> omega
 generalize a.length = na at *
 generalize o.length = no at *
 go_enter Try.func10, Try.ntmps10
 go_upto_region 1 with fail
 have hx := ((Vs.new w [.int .u8 k, .int .u8 f, .int .i64 b, .int .i64 l, .int .i64 m, .int .i64 c, .int .i64 p, .string s] #[.int .u8 k, .int .u8 f, .int .i64 b, .int .i64 l, .int .i64 m, .int .i64 c, .int .i64 p, .string s] 34 rfl).alloc (.cells #[d1, d2] 44)).alloc (.cells #[.slice none 0 0, .slice none 0 0, .slice none 0 0, .slice none 0 0] 48)
 have hd := (V2.new (w.alloc (.cells #[.int .u8 k, .int .u8 f, .int .i64 b, .int .i64 l, .int .i64 m, .int .i64 c, .int .i64 p, .string s] 34)) (d1) (d2) 44).alloc (.cells #[.slice none 0 0, .slice none 0 0, .slice none 0 0, .slice none 0 0] 48)
 have hr := Vs.new ((w.alloc (.cells #[.int .u8 k, .int .u8 f, .int .i64 b, .int .i64 l, .int .i64 m, .int .i64 c, .int .i64 p, .string s] 34)).alloc (.cells #[d1, d2] 44)) [.slice none 0 0, .slice none 0 0, .slice none 0 0, .slice none 0 0] #[.slice none 0 0, .slice none 0 0, .slice none 0 0, .slice none 0 0] 48 rfl
 have hol := OnlySl.new ((w.alloc (.cells #[.int .u8 k, .int .u8 f, .int .i64 b, .int .i64 l, .int .i64 m, .int .i64 c, .int .i64 p, .string s] 34)).alloc (.cells #[d1, d2] 44)) #[.slice none 0 0, .slice none 0 0, .slice none 0 0, .slice none 0 0] 48 (by simp)
 simp only [World.size_alloc] at hd hr hol
 have hb00 : Below w.heap.size w (((w.alloc (.cells #[.int .u8 k, .int .u8 f, .int .i64 b, .int .i64 l, .int .i64 m, .int .i64 c, .int .i64 p, .string s] 34)).alloc (.cells #[d1, d2] 44)).alloc (.cells #[.slice none 0 0, .slice none 0 0, .slice none 0 0, .slice none 0 0] 48)) := by repeat (first | exact bA | with_reducible assumption | apply bB)
 have hszn : w.heap.size + 3 ≤ (((w.alloc (.cells #[.int .u8 k, .int .u8 f, .int .i64 b, .int .i64 l, .int .i64 m, .int .i64 c, .int .i64 p, .string s] 34)).alloc (.cells #[d1, d2] 44)).alloc (.cells #[.slice none 0 0, .slice none 0 0, .slice none 0 0, .slice none 0 0] 48)).heap.size := by simp only [World.size_alloc]; omega
 generalize (((w.alloc (.cells #[.int .u8 k, .int .u8 f, .int .i64 b, .int .i64 l, .int .i64 m, .int .i64 c, .int .i64 p, .string s] 34)).alloc (.cells #[d1, d2] 44)).alloc (.cells #[.slice none 0 0, .slice none 0 0, .slice none 0 0, .slice none 0 0] 48)) = w1 at hx hd hr hol hb00 hszn ⊢
 obtain ⟨⟨x0, x1, x2, x3, x4, x5, x6, x7⟩, ⟨x8, x9, x10, x11, x12, x13, x14, x15⟩, x16⟩ := hx.get8
 go_upto_region 4 with (first
  | (go_at_call 27; refine (HC.out _).mono ?_; rintro e w2 ⟨rfl, hb2⟩; replace hb00 := bl_call hb00 (Nat.le_refl _) hb2; replace hx := hx.call hb2; replace hd := hd.call hb2; replace hr := hr.call hb2; replace hol := hol.call hb2; clear x0 x1 x2 x3 x4 x5 x6 x7 x8 x9 x10 x11 x12 x13 x14 x15 x16; clear hb2; obtain ⟨⟨x0, x1, x2, x3, x4, x5, x6, x7⟩, ⟨x8, x9, x10, x11, x12, x13, x14, x15⟩, x16⟩ := hx.get8))
 refine region_B (n := 16) (m := 17) (f := 16) (by kernel_rfl) (by kernel_rfl) rfl ?_
 refine WpH.vD 0 (some 20) ?_ rfl rfl (by kernel_rfl) (fun _ _ _ h => h) rfl (fun wz hwz => ?_) ?_
 rotate_left
 ·go_simp; try (with_reducible rfl)
 simp only [Zp, Zq, Zr, Zs]
 refine WpH.vD 1 (some 21) ?_ rfl rfl (by kernel_rfl) (fun _ _ _ h => h) rfl (fun wz hwz => ?_) ?_
 rotate_left
 ·go_simp; try (with_reducible rfl)
 simp only [Zp, Zq, Zr, Zs]
 refine WpH.vD 2 (some 22) ?_ rfl rfl (by kernel_rfl) (fun _ _ _ h => h) rfl (fun wz hwz => ?_) ?_
 rotate_left
 ·go_simp; try (with_reducible rfl)
 simp only [Zp, Zq, Zr, Zs]
 refine WpH.vD 3 (some 23) ?_ rfl rfl (by kernel_rfl) (fun _ _ _ h => h) rfl (fun wz hwz => ?_) ?_
 rotate_left
 ·(obtain ⟨hcz, hfz⟩ := bcell hwz; go_simp; try (with_reducible rfl))
 simp only [Zp, Zq, Zr, Zs]
 refine WpH.takeD 4 (some 24) rfl rfl (by kernel_rfl) (fun _ _ _ h => h) (.call rfl (fun wz hwz => HI.out wz) (fun wz hwz => ?_)) ?_
 ·go_simp; try (with_reducible rfl)
 simp only [Zp, Zq, Zr, Zs]
 refine WpH.vD 5 (some 25) ?_ rfl rfl (by kernel_rfl) (fun _ _ _ h => h) rfl (fun wz hwz => ?_) ?_
 rotate_left
 ·go_simp; try (with_reducible rfl)
 simp only [Zp, Zq, Zr, Zs]
 refine WpH.vD 6 (some 26) ?_ rfl rfl (by kernel_rfl) (fun _ _ _ h => h) rfl (fun wz hwz => ?_) ?_
 rotate_left
 ·go_simp; try (with_reducible rfl)
 simp only [Zp, Zq, Zr, Zs]
 refine WpH.vD 7 (some 27) ?_ rfl rfl (by kernel_rfl) (fun _ _ _ h => h) rfl (fun wz hwz => ?_) ?_
 rotate_left
 ·go_simp; try (with_reducible rfl)
 simp only [Zp, Zq, Zr, Zs]
 refine WpH.vD 8 (some 28) ?_ rfl rfl (by kernel_rfl) (fun _ _ _ h => h) rfl (fun wz hwz => ?_) ?_
 rotate_left
 ·go_simp; try (with_reducible rfl)
 simp only [Zp, Zq, Zr, Zs]
 refine WpH.vD 9 (some 29) ?_ rfl rfl (by kernel_rfl) (fun _ _ _ h => h) rfl (fun wz hwz => ?_) ?_
 rotate_left
 ·go_simp; try (with_reducible rfl)
 simp only [Zp, Zq, Zr, Zs]
 refine WpH.vD 10 (some 30) ?_ rfl rfl (by kernel_rfl) (fun _ _ _ h => h) rfl (fun wz hwz => ?_) ?_
 rotate_left
 ·(obtain ⟨hcz, hfz⟩ := bcell hwz; go_simp; try (with_reducible rfl))
 simp only [Zp, Zq, Zr, Zs]
 refine WpH.takeD 11 (some 31) rfl rfl (by kernel_rfl) (fun _ _ _ h => h) (.call rfl (fun wz hwz => HP.out wz) (fun wz hwz => ?_)) ?_
 ·go_simp; try (with_reducible rfl)
 simp only [Zp, Zq, Zr, Zs]
 refine WpH.vD 12 (some 32) ?_ rfl rfl (by kernel_rfl) (fun _ _ _ h => h) rfl (fun wz hwz => ?_) ?_
 rotate_left
 ·go_simp; try (with_reducible rfl)
 simp only [Zp, Zq, Zr, Zs]
 refine WpH.vD 13 (some 33) ?_ rfl rfl (by kernel_rfl) (fun _ _ _ h => h) rfl (fun wz hwz => ?_) ?_
 rotate_left
 ·(obtain ⟨hcz, hfz⟩ := bcell hwz; go_simp; try (with_reducible rfl))
 simp only [Zp, Zq, Zr, Zs]
 refine WpH.vD 14 (some 34) ?_ rfl rfl (by kernel_rfl) (fun _ _ _ h => h) rfl (fun wz hwz => ?_) ?_
 rotate_left
 ·go_simp; try (with_reducible rfl)
 simp only [Zp, Zq, Zr, Zs]
 refine WpH.vD 15 (some 35) ?_ rfl rfl (by kernel_rfl) (fun _ _ _ h => h) rfl (fun wz hwz => ?_) ?_
 rotate_left
 ·go_simp; try (with_reducible rfl)
 simp only [Zp, Zq, Zr, Zs]
 refine WpH.doneB (by kernel_rfl) (fun w3 hw3 => ?_)
 (try simp only [List.drop_succ_cons]); (try simp only [List.drop_zero]); (try simp only [Nat.reduceSub]); (try simp only [List.take_succ_cons]); (try simp only [List.take_zero])
 clear x0 x1 x2 x3 x4 x5 x6 x7 x8 x9 x10 x11 x12 x13 x14 x15 x16
 replace hb00 := bl_call hb00 (Nat.le_refl _) hw3
 replace hx := hx.call hw3
 replace hd := hd.call hw3
 replace hr := hr.call hw3
 replace hol := hol.call hw3
 clear hw3
 obtain ⟨⟨x0, x1, x2, x3, x4, x5, x6, x7⟩, ⟨x8, x9, x10, x11, x12, x13, x14, x15⟩, x16⟩ := hx.get8
 obtain ⟨d0, d1, d2, d3, d4⟩ := V2.mk hd.c0 hd.c1 hd.f0 hd.f1 hd.lt
 go_wp2_with fail
 clear x0 x1 x2 x3 x4 x5 x6 x7 x8 x9 x10 x11 x12 x13 x14 x15 x16 d0 d1 d2 d3 d4
 refine (HS1.out w3 hb00).mono ?_
 rintro e w4 ⟨u, v, rfl, hu, hv, lu, lv, hb4⟩
 have LU := Lib.hid lu
 have LV := Lib.hid lv
 clear lu lv
 obtain ⟨Au, cu, hue, _⟩ := id hu
 subst hue
 obtain ⟨Av, cv, hve, _⟩ := id hv
 subst hve
 obtain ⟨n1, hn1⟩ : ∃ n, (subL a e1).length = n := ⟨_, rfl⟩
 obtain ⟨n2, hn2⟩ : ∃ n, e1.length = n := ⟨_, rfl⟩
 rw [hn1] at hu ⊢
 rw [hn2] at hv ⊢
 have HN1 := Lib.hid hn1
 have HN2 := Lib.hid hn2
 clear hn1 hn2
 replace hb00 := bl_call hb00 (Nat.le_refl _) hb4
 replace hx := hx.call hb4
 replace hd := hd.call hb4
 replace hr := hr.call hb4
 replace hol := hol.call hb4
 clear hb4
 go_upto_region 7 with fail
 have hsa := V2.new w4 (.slice Au n1 cu) (.slice Av n2 cv) 46
 have hbA : Below w4.heap.size w4 (w4.alloc (.cells #[.slice Au n1 cu, .slice Av n2 cv] 46)) := by repeat (first | exact bA | with_reducible assumption | apply bB)
 replace hb00 := bl_call hb00 (Nat.le_refl _) hbA
 replace hx := hx.call hbA
 replace hd := hd.call hbA
 replace hr := hr.call hbA
 replace hol := hol.call hbA
 replace hu := hu.later hbA
 replace hv := hv.later hbA
 clear hbA
 generalize w4.alloc (.cells #[.slice Au n1 cu, .slice Av n2 cv] 46) = w5 at hb00 hx hd hr hol hu hv hsa ⊢
 obtain ⟨b1, hb1⟩ : ∃ z, w4.heap.size = z := ⟨_, rfl⟩
 rw [hb1] at hsa
 simp only [hb1]
 clear hb1
 obtain ⟨⟨x0, x1, x2, x3, x4, x5, x6, x7⟩, ⟨x8, x9, x10, x11, x12, x13, x14, x15⟩, x16⟩ := hx.get8
 obtain ⟨d0, d1, d2, d3, d4⟩ := V2.mk hd.c0 hd.c1 hd.f0 hd.f1 hd.lt
 go_wp2_with fail
 clear x0 x1 x2 x3 x4 x5 x6 x7 x8 x9 x10 x11 x12 x13 x14 x15 x16 d0 d1 d2 d3 d4
 refine (HS2.out w5 hb00).mono ?_
 rintro e w6 ⟨x, y, rfl, hx2, hy2, lx, ly, hb6⟩
 have LX := Lib.hid lx
 have LY := Lib.hid ly
 clear lx ly
 obtain ⟨Ax, cx, hxe, _⟩ := id hx2
 subst hxe
 obtain ⟨Ay, cy, hye, _⟩ := id hy2
 subst hye
 obtain ⟨n3, hn3⟩ : ∃ n, (subL o e2).length = n := ⟨_, rfl⟩
 obtain ⟨n4, hn4⟩ : ∃ n, e2.length = n := ⟨_, rfl⟩
 rw [hn3] at hx2 ⊢
 rw [hn4] at hy2 ⊢
 have HN3 := Lib.hid hn3
 have HN4 := Lib.hid hn4
 clear hn3 hn4
 replace hb00 := bl_call hb00 (Nat.le_refl _) hb6
 replace hx := hx.call hb6
 replace hd := hd.call hb6
 replace hr := hr.call hb6
 replace hol := hol.call hb6
 replace hu := hu.later hb6
 replace hv := hv.later hb6
 replace hsa := hsa.call hb6
 clear hb6
 go_upto_region 10 with fail
 have hsb := V2.new w6 (.slice Ax n3 cx) (.slice Ay n4 cy) 46
 have hbA : Below w6.heap.size w6 (w6.alloc (.cells #[.slice Ax n3 cx, .slice Ay n4 cy] 46)) := by repeat (first | exact bA | with_reducible assumption | apply bB)
 replace hb00 := bl_call hb00 (Nat.le_refl _) hbA
 replace hr := hr.call hbA
 replace hol := hol.call hbA
 replace hu := hu.later hbA
 replace hv := hv.later hbA
 replace hsa := hsa.call hbA
 replace hx2 := hx2.later hbA
 replace hy2 := hy2.later hbA
 clear hbA
 generalize w6.alloc (.cells #[.slice Ax n3 cx, .slice Ay n4 cy] 46) = w7 at hb00 hr hol hu hv hsa hx2 hy2 hsb ⊢
 obtain ⟨b2, hb2⟩ : ∃ z, w6.heap.size = z := ⟨_, rfl⟩
 rw [hb2] at hsb
 simp only [hb2]
 clear hb2
 have hrl := hr.lt
 obtain ⟨sa0, sa1, sa2, sa3, sa4⟩ := V2.mk hsa.c0 hsa.c1 hsa.f0 hsa.f1 hsa.lt
 obtain ⟨sb0, sb1, sb2, sb3, sb4⟩ := V2.mk hsb.c0 hsb.c1 hsb.f0 hsb.f1 hsb.lt
 obtain ⟨⟨r0, r1, r2, r3⟩, ⟨r4, r5, r6, r7⟩, r8⟩ := hr.get4
 go_wp2_with fail
 have hS := Vs.set4 hr (.slice Au n1 cu) (.slice Av n2 cv) (.slice Ax n3 cx) (.slice Ay n4 cy)
 have hB := bl_set (p := ⟨w.heap.size + 1 + 1, 3, none⟩) (bl_set (p := ⟨w.heap.size + 1 + 1, 2, none⟩) (bl_set (p := ⟨w.heap.size + 1 + 1, 1, none⟩) (bl_set (p := ⟨w.heap.size + 1 + 1, 0, none⟩) hb00 (by dsimp only; omega) (.slice Au n1 cu)) (by dsimp only; omega) (.slice Av n2 cv)) (by dsimp only; omega) (.slice Ax n3 cx)) (by dsimp only; omega) (.slice Ay n4 cy)
 exact bodyPost_ret (results_report (b := w.heap.size + 1 + 1) hS rfl rfl) rfl ⟨_, _, _, _, rfl, hu.set4 hol _ _ _ _, hv.set4 hol _ _ _ _, hx2.set4 hol _ _ _ _, hy2.set4 hol _ _ _ _, ⟨by rw [← HN1.out]; exact LU.out, by rw [← HN2.out]; exact LV.out, by rw [← HN3.out]; exact LX.out, by rw [← HN4.out]; exact LY.out⟩, hB⟩
end

end Go.Proofs.Ytpggflcapfkgpaa

namespace Go.Proofs.Ytpggflcapfkgpaa
open Go.RowKit Fm
set_option linter.unusedVariables false
set_option maxRecDepth 100000

section
variable {f : Nat} (hf : IsF f)
include hf

set_option maxHeartbeats 4000000 in
theorem tape_Spread9 (k b l m c : Int) (p : Int) (s : ByteArray) (ni nq nr : Nat) (A A' : Option Addr) (na no c1 c2 : Nat) (d1 d2 : Value) (w : World)
  (HC : Hid (∀ wz, Calls Try.prog 27 #[.agg #[.int .u8 k, .int .u8 f, .int .i64 b, .int .i64 l, .int .i64 m, .int .i64 c, .int .i64 p, .string s]] wz (RetC 0 wz)))
  (HI : Hid (∀ wz, Calls Try.prog 28 #[.agg #[.int .u8 k, .int .u8 f, .int .i64 b, .int .i64 l, .int .i64 m, .int .i64 c]] wz (RetI ni wz)))
  (HP : Hid (∀ wz, Calls Try.prog 8 #[.agg #[.int .u8 k, .int .u8 f, .int .i64 b, .int .i64 l, .int .i64 m, .int .i64 c]] wz (RetI nq wz)))
  (h : na ≠ ni ∨ (na = ni ∧ no ≠ nr)) (hp : IntKind.i64.wrap ((nq : Int) * p) = (nr : Nat)) :
  Calls Try.prog 10 #[.agg #[.int .u8 k, .int .u8 f, .int .i64 b, .int .i64 l, .int .i64 m, .int .i64 c, .int .i64 p, .string s], .slice A na c1, .slice A' no c2, .agg #[d1, d2]] w fun e w' => e = .returned (.tuple #[.agg #[.slice none 0 0, .slice none 0 0, .slice none 0 0, .slice none 0 0], .int .i64 9]) ∧ Below w.heap.size w w' := by
 have hfb0 : (1 : Int) ≤ (f : Int) := by rcases hf.or with rfl | rfl <;> omega
 have hfb1 : (f : Int) ≤ 2 := by rcases hf.or with rfl | rfl <;> omega
 rcases h with h | ⟨rfl, h⟩
 ·have t1 : ((na : Int) == (ni : Int)) = false := by simp; omega
  have t2 : ((na : Int) != (ni : Int)) = true := by simp; omega
  clear h hp
  go_enter Try.func10, Try.ntmps10
  go_upto_region 1 with fail
  have hx := ((Vs.new w [.int .u8 k, .int .u8 f, .int .i64 b, .int .i64 l, .int .i64 m, .int .i64 c, .int .i64 p, .string s] #[.int .u8 k, .int .u8 f, .int .i64 b, .int .i64 l, .int .i64 m, .int .i64 c, .int .i64 p, .string s] 34 rfl).alloc (.cells #[d1, d2] 44)).alloc (.cells #[.slice none 0 0, .slice none 0 0, .slice none 0 0, .slice none 0 0] 48)
  have hd := (V2.new (w.alloc (.cells #[.int .u8 k, .int .u8 f, .int .i64 b, .int .i64 l, .int .i64 m, .int .i64 c, .int .i64 p, .string s] 34)) (d1) (d2) 44).alloc (.cells #[.slice none 0 0, .slice none 0 0, .slice none 0 0, .slice none 0 0] 48)
  have hr := Vs.new ((w.alloc (.cells #[.int .u8 k, .int .u8 f, .int .i64 b, .int .i64 l, .int .i64 m, .int .i64 c, .int .i64 p, .string s] 34)).alloc (.cells #[d1, d2] 44)) [.slice none 0 0, .slice none 0 0, .slice none 0 0, .slice none 0 0] #[.slice none 0 0, .slice none 0 0, .slice none 0 0, .slice none 0 0] 48 rfl
  simp only [World.size_alloc] at hd hr
  have hb00 : Below w.heap.size w (((w.alloc (.cells #[.int .u8 k, .int .u8 f, .int .i64 b, .int .i64 l, .int .i64 m, .int .i64 c, .int .i64 p, .string s] 34)).alloc (.cells #[d1, d2] 44)).alloc (.cells #[.slice none 0 0, .slice none 0 0, .slice none 0 0, .slice none 0 0] 48)) := by repeat (first | exact bA | with_reducible assumption | apply bB)
  have hszn : w.heap.size + 3 ≤ (((w.alloc (.cells #[.int .u8 k, .int .u8 f, .int .i64 b, .int .i64 l, .int .i64 m, .int .i64 c, .int .i64 p, .string s] 34)).alloc (.cells #[d1, d2] 44)).alloc (.cells #[.slice none 0 0, .slice none 0 0, .slice none 0 0, .slice none 0 0] 48)).heap.size := by simp only [World.size_alloc]; omega
  generalize (((w.alloc (.cells #[.int .u8 k, .int .u8 f, .int .i64 b, .int .i64 l, .int .i64 m, .int .i64 c, .int .i64 p, .string s] 34)).alloc (.cells #[d1, d2] 44)).alloc (.cells #[.slice none 0 0, .slice none 0 0, .slice none 0 0, .slice none 0 0] 48)) = w1 at hx hd hr hb00 hszn ⊢
  obtain ⟨⟨x0, x1, x2, x3, x4, x5, x6, x7⟩, ⟨x8, x9, x10, x11, x12, x13, x14, x15⟩, x16⟩ := hx.get8
  go_upto_region 4 with (first
   | (go_at_call 27; refine (HC.out _).mono ?_; rintro e w2 ⟨rfl, hb2⟩; replace hb00 := bl_call hb00 (Nat.le_refl _) hb2; replace hx := hx.call hb2; replace hd := hd.call hb2; replace hr := hr.call hb2; clear x0 x1 x2 x3 x4 x5 x6 x7 x8 x9 x10 x11 x12 x13 x14 x15 x16; clear hb2; obtain ⟨⟨x0, x1, x2, x3, x4, x5, x6, x7⟩, ⟨x8, x9, x10, x11, x12, x13, x14, x15⟩, x16⟩ := hx.get8))
  refine region_B (n := 16) (m := 17) (f := 16) (by kernel_rfl) (by kernel_rfl) rfl ?_
  refine WpH.vD 0 (some 20) ?_ rfl rfl (by kernel_rfl) (fun _ _ _ h => h) rfl (fun wz hwz => ?_) ?_
  rotate_left
  ·go_simp; try (with_reducible rfl)
  simp only [Zp, Zq, Zr, Zs]
  refine WpH.vD 1 (some 21) ?_ rfl rfl (by kernel_rfl) (fun _ _ _ h => h) rfl (fun wz hwz => ?_) ?_
  rotate_left
  ·go_simp; try (with_reducible rfl)
  simp only [Zp, Zq, Zr, Zs]
  refine WpH.vD 2 (some 22) ?_ rfl rfl (by kernel_rfl) (fun _ _ _ h => h) rfl (fun wz hwz => ?_) ?_
  rotate_left
  ·go_simp; try (with_reducible rfl)
  simp only [Zp, Zq, Zr, Zs]
  refine WpH.vD 3 (some 23) ?_ rfl rfl (by kernel_rfl) (fun _ _ _ h => h) rfl (fun wz hwz => ?_) ?_
  rotate_left
  ·(obtain ⟨hcz, hfz⟩ := bcell hwz; go_simp; try (with_reducible rfl))
  simp only [Zp, Zq, Zr, Zs]
  refine WpH.takeD 4 (some 24) rfl rfl (by kernel_rfl) (fun _ _ _ h => h) (.call rfl (fun wz hwz => HI.out wz) (fun wz hwz => ?_)) ?_
  ·go_simp; try (with_reducible rfl)
  simp only [Zp, Zq, Zr, Zs]
  refine WpH.vD 5 (some 25) ?_ rfl rfl (by kernel_rfl) (fun _ _ _ h => h) rfl (fun wz hwz => ?_) ?_
  rotate_left
  ·go_simp; try (with_reducible rfl)
  simp only [Zp, Zq, Zr, Zs]
  refine WpH.vD 6 (some 26) ?_ rfl rfl (by kernel_rfl) (fun _ _ _ h => h) rfl (fun wz hwz => ?_) ?_
  rotate_left
  ·go_simp; try (with_reducible rfl)
  simp only [Zp, Zq, Zr, Zs]
  refine WpH.takeD 7 (some 27) rfl rfl (by kernel_rfl) (fun _ _ _ h => h) (.skip rfl) ?_
  simp only [Zp, Zq, Zr, Zs]
  refine WpH.takeD 8 (some 28) rfl rfl (by kernel_rfl) (fun _ _ _ h => h) (.skip rfl) ?_
  simp only [Zp, Zq, Zr, Zs]
  refine WpH.takeD 9 (some 29) rfl rfl (by kernel_rfl) (fun _ _ _ h => h) (.skip rfl) ?_
  simp only [Zp, Zq, Zr, Zs]
  refine WpH.takeD 10 (some 30) rfl rfl (by kernel_rfl) (fun _ _ _ h => h) (.skip rfl) ?_
  simp only [Zp, Zq, Zr, Zs]
  refine WpH.takeD 11 (some 31) rfl rfl (by kernel_rfl) (fun _ _ _ h => h) (.skip rfl) ?_
  simp only [Zp, Zq, Zr, Zs]
  refine WpH.takeD 12 (some 32) rfl rfl (by kernel_rfl) (fun _ _ _ h => h) (.skip rfl) ?_
  simp only [Zp, Zq, Zr, Zs]
  refine WpH.takeD 13 (some 33) rfl rfl (by kernel_rfl) (fun _ _ _ h => h) (.skip rfl) ?_
  simp only [Zp, Zq, Zr, Zs]
  refine WpH.takeD 14 (some 34) rfl rfl (by kernel_rfl) (fun _ _ _ h => h) (.skip rfl) ?_
  simp only [Zp, Zq, Zr, Zs]
  refine WpH.takeD 15 (some 35) rfl rfl (by kernel_rfl) (fun _ _ _ h => h) (.skip rfl) ?_
  simp only [Zp, Zq, Zr, Zs]
  refine WpH.doneB (by kernel_rfl) (fun w3 hw3 => ?_)
  (try simp only [List.drop_succ_cons]); (try simp only [List.drop_zero]); (try simp only [Nat.reduceSub]); (try simp only [List.take_succ_cons]); (try simp only [List.take_zero])
  clear x0 x1 x2 x3 x4 x5 x6 x7 x8 x9 x10 x11 x12 x13 x14 x15 x16
  replace hb00 := bl_call hb00 (Nat.le_refl _) hw3
  replace hx := hx.call hw3
  replace hd := hd.call hw3
  replace hr := hr.call hw3
  clear hw3
  have hrl := hr.lt
  obtain ⟨⟨r0, r1, r2, r3⟩, ⟨r4, r5, r6, r7⟩, r8⟩ := hr.get4
  go_wp2_with fail
  have hS := Vs.set4 hr (.slice none 0 0) (.slice none 0 0) (.slice none 0 0) (.slice none 0 0)
  have hB := bl_set (p := ⟨w.heap.size + 1 + 1, 3, none⟩) (bl_set (p := ⟨w.heap.size + 1 + 1, 2, none⟩) (bl_set (p := ⟨w.heap.size + 1 + 1, 1, none⟩) (bl_set (p := ⟨w.heap.size + 1 + 1, 0, none⟩) hb00 (by dsimp only; omega) (.slice none 0 0)) (by dsimp only; omega) (.slice none 0 0)) (by dsimp only; omega) (.slice none 0 0)) (by dsimp only; omega) (.slice none 0 0)
  exact bodyPost_ret (results_report (b := w.heap.size + 1 + 1) hS rfl rfl) rfl ⟨rfl, hB⟩
 ·have t1 : ((no : Int) == (nr : Int)) = false := by simp; omega
  have t2 : ((no : Int) != (nr : Int)) = true := by simp; omega
  clear h
  go_enter Try.func10, Try.ntmps10
  go_upto_region 1 with fail
  have hx := ((Vs.new w [.int .u8 k, .int .u8 f, .int .i64 b, .int .i64 l, .int .i64 m, .int .i64 c, .int .i64 p, .string s] #[.int .u8 k, .int .u8 f, .int .i64 b, .int .i64 l, .int .i64 m, .int .i64 c, .int .i64 p, .string s] 34 rfl).alloc (.cells #[d1, d2] 44)).alloc (.cells #[.slice none 0 0, .slice none 0 0, .slice none 0 0, .slice none 0 0] 48)
  have hd := (V2.new (w.alloc (.cells #[.int .u8 k, .int .u8 f, .int .i64 b, .int .i64 l, .int .i64 m, .int .i64 c, .int .i64 p, .string s] 34)) (d1) (d2) 44).alloc (.cells #[.slice none 0 0, .slice none 0 0, .slice none 0 0, .slice none 0 0] 48)
  have hr := Vs.new ((w.alloc (.cells #[.int .u8 k, .int .u8 f, .int .i64 b, .int .i64 l, .int .i64 m, .int .i64 c, .int .i64 p, .string s] 34)).alloc (.cells #[d1, d2] 44)) [.slice none 0 0, .slice none 0 0, .slice none 0 0, .slice none 0 0] #[.slice none 0 0, .slice none 0 0, .slice none 0 0, .slice none 0 0] 48 rfl
  simp only [World.size_alloc] at hd hr
  have hb00 : Below w.heap.size w (((w.alloc (.cells #[.int .u8 k, .int .u8 f, .int .i64 b, .int .i64 l, .int .i64 m, .int .i64 c, .int .i64 p, .string s] 34)).alloc (.cells #[d1, d2] 44)).alloc (.cells #[.slice none 0 0, .slice none 0 0, .slice none 0 0, .slice none 0 0] 48)) := by repeat (first | exact bA | with_reducible assumption | apply bB)
  have hszn : w.heap.size + 3 ≤ (((w.alloc (.cells #[.int .u8 k, .int .u8 f, .int .i64 b, .int .i64 l, .int .i64 m, .int .i64 c, .int .i64 p, .string s] 34)).alloc (.cells #[d1, d2] 44)).alloc (.cells #[.slice none 0 0, .slice none 0 0, .slice none 0 0, .slice none 0 0] 48)).heap.size := by simp only [World.size_alloc]; omega
  generalize (((w.alloc (.cells #[.int .u8 k, .int .u8 f, .int .i64 b, .int .i64 l, .int .i64 m, .int .i64 c, .int .i64 p, .string s] 34)).alloc (.cells #[d1, d2] 44)).alloc (.cells #[.slice none 0 0, .slice none 0 0, .slice none 0 0, .slice none 0 0] 48)) = w1 at hx hd hr hb00 hszn ⊢
  obtain ⟨⟨x0, x1, x2, x3, x4, x5, x6, x7⟩, ⟨x8, x9, x10, x11, x12, x13, x14, x15⟩, x16⟩ := hx.get8
  go_upto_region 4 with (first
   | (go_at_call 27; refine (HC.out _).mono ?_; rintro e w2 ⟨rfl, hb2⟩; replace hb00 := bl_call hb00 (Nat.le_refl _) hb2; replace hx := hx.call hb2; replace hd := hd.call hb2; replace hr := hr.call hb2; clear x0 x1 x2 x3 x4 x5 x6 x7 x8 x9 x10 x11 x12 x13 x14 x15 x16; clear hb2; obtain ⟨⟨x0, x1, x2, x3, x4, x5, x6, x7⟩, ⟨x8, x9, x10, x11, x12, x13, x14, x15⟩, x16⟩ := hx.get8))
  refine region_B (n := 16) (m := 17) (f := 16) (by kernel_rfl) (by kernel_rfl) rfl ?_
  refine WpH.vD 0 (some 20) ?_ rfl rfl (by kernel_rfl) (fun _ _ _ h => h) rfl (fun wz hwz => ?_) ?_
  rotate_left
  ·go_simp; try (with_reducible rfl)
  simp only [Zp, Zq, Zr, Zs]
  refine WpH.vD 1 (some 21) ?_ rfl rfl (by kernel_rfl) (fun _ _ _ h => h) rfl (fun wz hwz => ?_) ?_
  rotate_left
  ·go_simp; try (with_reducible rfl)
  simp only [Zp, Zq, Zr, Zs]
  refine WpH.vD 2 (some 22) ?_ rfl rfl (by kernel_rfl) (fun _ _ _ h => h) rfl (fun wz hwz => ?_) ?_
  rotate_left
  ·go_simp; try (with_reducible rfl)
  simp only [Zp, Zq, Zr, Zs]
  refine WpH.vD 3 (some 23) ?_ rfl rfl (by kernel_rfl) (fun _ _ _ h => h) rfl (fun wz hwz => ?_) ?_
  rotate_left
  ·(obtain ⟨hcz, hfz⟩ := bcell hwz; go_simp; try (with_reducible rfl))
  simp only [Zp, Zq, Zr, Zs]
  refine WpH.takeD 4 (some 24) rfl rfl (by kernel_rfl) (fun _ _ _ h => h) (.call rfl (fun wz hwz => HI.out wz) (fun wz hwz => ?_)) ?_
  ·go_simp; try (with_reducible rfl)
  simp only [Zp, Zq, Zr, Zs]
  refine WpH.vD 5 (some 25) ?_ rfl rfl (by kernel_rfl) (fun _ _ _ h => h) rfl (fun wz hwz => ?_) ?_
  rotate_left
  ·go_simp; try (with_reducible rfl)
  simp only [Zp, Zq, Zr, Zs]
  refine WpH.vD 6 (some 26) ?_ rfl rfl (by kernel_rfl) (fun _ _ _ h => h) rfl (fun wz hwz => ?_) ?_
  rotate_left
  ·go_simp; try (with_reducible rfl)
  simp only [Zp, Zq, Zr, Zs]
  refine WpH.vD 7 (some 27) ?_ rfl rfl (by kernel_rfl) (fun _ _ _ h => h) rfl (fun wz hwz => ?_) ?_
  rotate_left
  ·go_simp; try (with_reducible rfl)
  simp only [Zp, Zq, Zr, Zs]
  refine WpH.vD 8 (some 28) ?_ rfl rfl (by kernel_rfl) (fun _ _ _ h => h) rfl (fun wz hwz => ?_) ?_
  rotate_left
  ·go_simp; try (with_reducible rfl)
  simp only [Zp, Zq, Zr, Zs]
  refine WpH.vD 9 (some 29) ?_ rfl rfl (by kernel_rfl) (fun _ _ _ h => h) rfl (fun wz hwz => ?_) ?_
  rotate_left
  ·go_simp; try (with_reducible rfl)
  simp only [Zp, Zq, Zr, Zs]
  refine WpH.vD 10 (some 30) ?_ rfl rfl (by kernel_rfl) (fun _ _ _ h => h) rfl (fun wz hwz => ?_) ?_
  rotate_left
  ·(obtain ⟨hcz, hfz⟩ := bcell hwz; go_simp; try (with_reducible rfl))
  simp only [Zp, Zq, Zr, Zs]
  refine WpH.takeD 11 (some 31) rfl rfl (by kernel_rfl) (fun _ _ _ h => h) (.call rfl (fun wz hwz => HP.out wz) (fun wz hwz => ?_)) ?_
  ·go_simp; try (with_reducible rfl)
  simp only [Zp, Zq, Zr, Zs]
  refine WpH.vD 12 (some 32) ?_ rfl rfl (by kernel_rfl) (fun _ _ _ h => h) rfl (fun wz hwz => ?_) ?_
  rotate_left
  ·go_simp; try (with_reducible rfl)
  simp only [Zp, Zq, Zr, Zs]
  refine WpH.vD 13 (some 33) ?_ rfl rfl (by kernel_rfl) (fun _ _ _ h => h) rfl (fun wz hwz => ?_) ?_
  rotate_left
  ·(obtain ⟨hcz, hfz⟩ := bcell hwz; go_simp; try (with_reducible rfl))
  simp only [Zp, Zq, Zr, Zs]
  refine WpH.vD 14 (some 34) ?_ rfl rfl (by kernel_rfl) (fun _ _ _ h => h) rfl (fun wz hwz => ?_) ?_
  rotate_left
  ·go_simp; try (with_reducible rfl)
  simp only [Zp, Zq, Zr, Zs]
  refine WpH.vD 15 (some 35) ?_ rfl rfl (by kernel_rfl) (fun _ _ _ h => h) rfl (fun wz hwz => ?_) ?_
  rotate_left
  ·go_simp; try (with_reducible rfl)
  simp only [Zp, Zq, Zr, Zs]
  refine WpH.doneB (by kernel_rfl) (fun w3 hw3 => ?_)
  (try simp only [List.drop_succ_cons]); (try simp only [List.drop_zero]); (try simp only [Nat.reduceSub]); (try simp only [List.take_succ_cons]); (try simp only [List.take_zero])
  clear x0 x1 x2 x3 x4 x5 x6 x7 x8 x9 x10 x11 x12 x13 x14 x15 x16
  replace hb00 := bl_call hb00 (Nat.le_refl _) hw3
  replace hx := hx.call hw3
  replace hd := hd.call hw3
  replace hr := hr.call hw3
  clear hw3
  have hrl := hr.lt
  obtain ⟨⟨r0, r1, r2, r3⟩, ⟨r4, r5, r6, r7⟩, r8⟩ := hr.get4
  go_wp2_with fail
  have hS := Vs.set4 hr (.slice none 0 0) (.slice none 0 0) (.slice none 0 0) (.slice none 0 0)
  have hB := bl_set (p := ⟨w.heap.size + 1 + 1, 3, none⟩) (bl_set (p := ⟨w.heap.size + 1 + 1, 2, none⟩) (bl_set (p := ⟨w.heap.size + 1 + 1, 1, none⟩) (bl_set (p := ⟨w.heap.size + 1 + 1, 0, none⟩) hb00 (by dsimp only; omega) (.slice none 0 0)) (by dsimp only; omega) (.slice none 0 0)) (by dsimp only; omega) (.slice none 0 0)) (by dsimp only; omega) (.slice none 0 0)
  exact bodyPost_ret (results_report (b := w.heap.size + 1 + 1) hS rfl rfl) rfl ⟨rfl, hB⟩

omit hf in
set_option maxHeartbeats 4000000 in
theorem tape_Retape9 (fi m : Int) (hf : FM fi m) (va vo vb : Value) (xs os ys : List E) (w : World) (hx : SlE w w.heap.size va xs) (ho : SlE w w.heap.size vo os) (hy : SlE w w.heap.size vb ys) (hl : xs.length = ys.length) (hlo : os.length ≠ ys.length) (hn : xs.length ≤ 1099511627776)
  (ix : AllIn m xs) (io : AllIn m os) (iy : AllIn m ys) :
  Calls Try.prog 13 #[.int .u8 fi, va, vo, vb] w (RetNil 9 w) := by
 have hS := tape_Split fi m hf va vb xs ys w hx hy hl hn ix iy
 have HS := Lib.hid hS
 have ho0 := ho
 obtain ⟨⟨A, c, rfl, hc, hcm, hA⟩, hokx⟩ := hx
 obtain ⟨⟨A', c', rfl, hc', hcm', hA'⟩, hoky⟩ := hy
 obtain ⟨⟨D, cc, rfl, hLc, hLm, hLA⟩, hLok⟩ := ho
 have hzl : os.length ≠ (zipO (· - ·) fi m xs ys).length := by unfold zipO; rw [List.length_zipWith, hl, Nat.min_self]; exact hlo
 have HZL := Lib.hid hzl
 clear hl hlo hzl hA hA' hS
 go_enter Try.func13, Try.ntmps13
 go_wp2_with fail
 refine HS.out.mono ?_
 rintro e w1 ⟨u, v, rfl, hu, hv, hb1⟩
 have hu0 := hu
 obtain ⟨⟨U, uc, rfl, huc, hum, hUA⟩, huok⟩ := hu
 obtain ⟨⟨V, vc, rfl, hvc, hvm, hVA⟩, hvok⟩ := hv
 go_wp2
 go_loopw [26] (fun j wi => ∃ q : Nat, q ≤ os.length ∧ j = .int .i64 q ∧ V2 wi w1.heap.size (.slice U (zipO (· - ·) fi m xs ys).length uc) (.slice V ys.length vc) ∧ Below w1.heap.size w1 wi) (fun j _ => os.length - (intOf j).toNat)
 case atStart => exact ⟨0, Nat.zero_le _, rfl, V2.new w1 _ _ _, by repeat (first | exact bA | with_reducible assumption | apply bB | (refine bC ?_ (by dsimp only; omega)) | apply bD | apply bE | (refine bF ?_ (by assumption)))⟩
 case round =>
  obtain ⟨q, hq, rfl, hs', hbw'⟩ := hrel
  have hbw : Below w.heap.size w wr := by repeat (first | exact bA | with_reducible assumption | apply bB | (refine bC ?_ (by dsimp only; omega)) | apply bD | apply bE | (refine bF ?_ (by assumption)))
  by_cases hlq : q < os.length
  ·obtain ⟨b, o, rfl, hB, hr⟩ := hLA (by omega)
   obtain ⟨⟨x0, x1⟩, he⟩ : ∃ e, os[q]? = some e := ⟨_, List.getElem?_eq_getElem hlq⟩
   obtain ⟨hx0, hx1, hx2, hx3⟩ := hLok _ (List.mem_of_getElem? he)
   have hin := io _ (List.mem_of_getElem? he)
   obtain ⟨c0, c1⟩ := (hr.below hbw hB) q _ he
   dsimp only at hx0 hx1 hx2 hx3 hin c0 c1
   have hd : decide (x0 + 18446744073709551616 * x1 < m) = true := by simp; omega
   clear hin hLA hr he
   go_wp2_with (go_at_call 30; refine (field_In fi m _ _ _ hf (by omega) (by omega) (by omega) (by omega)).mono ?_; rintro e w6 ⟨rfl, hb6⟩)
   have hs6 := (hs'.alloc (.cells #[.int .u64 x0, .int .u64 x1] 55)).call hb6
   have hbw6 : Below w1.heap.size w1 w6 := by repeat (first | exact bA | with_reducible assumption | apply bB | (refine bC ?_ (by dsimp only; omega)) | apply bD | apply bE | (refine bF ?_ (by assumption)))
   go_roundw
   case rel => exact ⟨q + 1, by omega, by go_num, hs6, hbw6⟩
   case measure => simp [intOf]; omega
  ·obtain rfl : q = os.length := by omega
   have hor := (ho0.below hbw).mono hbw.size
   have hur := (hu0.below hbw').mono hbw'.size
   obtain ⟨v10, v11, v12, v13, v14⟩ := hs'
   go_wp2_with fail
   refine (field_SubVec_size fi _ _ os _ _ hor hur HZL.out).mono ?_
   rintro e w2 ⟨rfl, hb2⟩
   go_wp2
   go_ret2
   exact ⟨rfl, by repeat (first | exact bA | with_reducible assumption | apply bB | (refine bC ?_ (by dsimp only; omega)) | apply bD | apply bE | (refine bF ?_ (by assumption)))⟩


theorem tape_RetapeK9 (va vo vb : Value) (a b : KL f) (os : List E) (w : World) (ha : SlK w w.heap.size va a) (ho : SlE w w.heap.size vo os) (hb : SlK w w.heap.size vb b) (hl : a.length = b.length) (hl2 : os.length ≠ b.length) (hn : a.length ≤ 1000000) (io : AllIn (Pm f : Nat) os) :
  Calls Try.prog 13 #[.int .u8 f, va, vo, vb] w (RetNil 9 w) :=
 tape_Retape9 f _ (FM.ofN hf) va vo vb (esK a) os (esK b) w ha.toE ho hb.toE (by rw [esK_length, esK_length, hl]) (by rw [esK_length]; exact hl2) (by rw [esK_length]; omega) (allIn_esK a) io (allIn_esK b)

set_option maxHeartbeats 4000000 in
theorem tape_OtherK (k b l m c : Int) (p : Int) (s : ByteArray) (nq : Nat) (va vb vc vd d1 d2 : Value) (a o e1 e2 oa oo : KL f) (w : World)
  (HC : Hid (∀ wz, Calls Try.prog 27 #[.agg #[.int .u8 k, .int .u8 f, .int .i64 b, .int .i64 l, .int .i64 m, .int .i64 c, .int .i64 p, .string s]] wz (RetC 0 wz)))
  (HI : Hid (∀ wz, Calls Try.prog 28 #[.agg #[.int .u8 k, .int .u8 f, .int .i64 b, .int .i64 l, .int .i64 m, .int .i64 c]] wz (RetI a.length wz)))
  (HP : Hid (∀ wz, Calls Try.prog 8 #[.agg #[.int .u8 k, .int .u8 f, .int .i64 b, .int .i64 l, .int .i64 m, .int .i64 c]] wz (RetI nq wz)))
  (ha : SlK w w.heap.size va a) (ho : SlK w w.heap.size vb o) (hoa : SlK w w.heap.size vc oa) (hoo : SlK w w.heap.size vd oo) (he1 : SlK w w.heap.size d1 e1) (he2 : SlK w w.heap.size d2 e2) (h1 : a.length = e1.length) (h2 : o.length = e2.length) (h3 : oa.length = e1.length) (h4 : oo.length = e2.length) (hp : IntKind.i64.wrap ((nq : Int) * p) = (o.length : Nat)) (hl1 : a.length ≤ 1000000) (hl2 : o.length ≤ 1000000) :
  Calls Try.prog 11 #[.agg #[.int .u8 k, .int .u8 f, .int .i64 b, .int .i64 l, .int .i64 m, .int .i64 c, .int .i64 p, .string s], va, vb, vc, vd, .agg #[d1, d2]] w fun e w' => ∃ u v : Value, e = .returned (.tuple #[.agg #[u, v], .int .i64 0]) ∧ SlK w' w'.heap.size u (subL oa (subL a e1)) ∧ SlK w' w'.heap.size v (subL oo (subL o e2)) ∧ Below w.heap.size w w' := by
 have HS : Hid (∀ wz, Below w.heap.size w wz → _) := fun wz hb => tape_SpreadK hf k b l m c p s nq va vb d1 d2 a o e1 e2 wz HC HI HP (ha.later hb) (ho.later hb) (he1.later hb) (he2.later hb) h1 h2 hp hl1 hl2
 have HR1 : Hid (∀ wz, Below w.heap.size w wz → _) := fun wz hb => tape_RetapeK hf va vc d1 a oa e1 wz (ha.later hb) (hoa.later hb) (he1.later hb) h1 h3 hl1
 have HR2 : Hid (∀ wz, Below w.heap.size w wz → _) := fun wz hb => tape_RetapeK hf vb vd d2 o oo e2 wz (ho.later hb) (hoo.later hb) (he2.later hb) h2 h4 hl2
 have hfb0 : (1 : Int) ≤ (f : Int) := by rcases hf.or with rfl | rfl <;> omega
 have hfb1 : (f : Int) ≤ 2 := by rcases hf.or with rfl | rfl <;> omega
 obtain ⟨A1, c1, rfl, _, _, _⟩ := ha
 obtain ⟨A2, c2, rfl, _, _, _⟩ := ho
 obtain ⟨A3, c3, rfl, _, _, _⟩ := hoa
 obtain ⟨A4, c4, rfl, _, _, _⟩ := hoo
 have HL1 := Lib.hid (show (subL oa (subL a e1)).length ≤ 1000000 by rw [subL_length oa _ (by rw [subL_length a e1 (by omega)]; omega)]; omega)
 have HL2 := Lib.hid (show (subL oo (subL o e2)).length ≤ 1000000 by rw [subL_length oo _ (by rw [subL_length o e2 (by omega)]; omega)]; omega)
 clear he1 he2 h1 h2 h3 h4 hp hl1 hl2 HC HI HP
 generalize oo.length = m4 at *
 generalize a.length = m1 at *
 generalize o.length = m2 at *
 generalize oa.length = m3 at *
 go_enter Try.func11, Try.ntmps11
 go_upto_region 1 with fail
 have hx := ((Vs.new w [.int .u8 k, .int .u8 f, .int .i64 b, .int .i64 l, .int .i64 m, .int .i64 c, .int .i64 p, .string s] #[.int .u8 k, .int .u8 f, .int .i64 b, .int .i64 l, .int .i64 m, .int .i64 c, .int .i64 p, .string s] 34 rfl).alloc (.cells #[d1, d2] 44)).alloc (.cells #[.slice none 0 0, .slice none 0 0] 44)
 have hd := (V2.new (w.alloc (.cells #[.int .u8 k, .int .u8 f, .int .i64 b, .int .i64 l, .int .i64 m, .int .i64 c, .int .i64 p, .string s] 34)) (d1) (d2) 44).alloc (.cells #[.slice none 0 0, .slice none 0 0] 44)
 have hr := V2.new ((w.alloc (.cells #[.int .u8 k, .int .u8 f, .int .i64 b, .int .i64 l, .int .i64 m, .int .i64 c, .int .i64 p, .string s] 34)).alloc (.cells #[d1, d2] 44)) (.slice none 0 0) (.slice none 0 0) 44
 have hol := OnlySl.new ((w.alloc (.cells #[.int .u8 k, .int .u8 f, .int .i64 b, .int .i64 l, .int .i64 m, .int .i64 c, .int .i64 p, .string s] 34)).alloc (.cells #[d1, d2] 44)) #[.slice none 0 0, .slice none 0 0] 44 (by simp)
 simp only [World.size_alloc] at hd hr hol
 have hb00 : Below w.heap.size w (((w.alloc (.cells #[.int .u8 k, .int .u8 f, .int .i64 b, .int .i64 l, .int .i64 m, .int .i64 c, .int .i64 p, .string s] 34)).alloc (.cells #[d1, d2] 44)).alloc (.cells #[.slice none 0 0, .slice none 0 0] 44)) := by repeat (first | exact bA | with_reducible assumption | apply bB)
 have hszn : w.heap.size + 3 ≤ (((w.alloc (.cells #[.int .u8 k, .int .u8 f, .int .i64 b, .int .i64 l, .int .i64 m, .int .i64 c, .int .i64 p, .string s] 34)).alloc (.cells #[d1, d2] 44)).alloc (.cells #[.slice none 0 0, .slice none 0 0] 44)).heap.size := by simp only [World.size_alloc]; omega
 generalize (((w.alloc (.cells #[.int .u8 k, .int .u8 f, .int .i64 b, .int .i64 l, .int .i64 m, .int .i64 c, .int .i64 p, .string s] 34)).alloc (.cells #[d1, d2] 44)).alloc (.cells #[.slice none 0 0, .slice none 0 0] 44)) = w1 at hx hd hr hol hb00 hszn ⊢
 obtain ⟨⟨x0, x1, x2, x3, x4, x5, x6, x7⟩, ⟨x8, x9, x10, x11, x12, x13, x14, x15⟩, x16⟩ := hx.get8
 obtain ⟨d0, d1, d2, d3, d4⟩ := V2.mk hd.c0 hd.c1 hd.f0 hd.f1 hd.lt
 go_wp2_with fail
 clear x0 x1 x2 x3 x4 x5 x6 x7 x8 x9 x10 x11 x12 x13 x14 x15 x16 d0 d1 d2 d3 d4
 refine (HS.out w1 hb00).mono ?_
 rintro e w2 ⟨q1, q2, q3, q4, rfl, hq1, hq2, hq3, hq4, _, hb2⟩
 obtain ⟨B1, e1c, rfl, _⟩ := hq1
 obtain ⟨B2, e2c, rfl, _⟩ := hq2
 obtain ⟨B3, e3c, rfl, _⟩ := hq3
 obtain ⟨B4, e4c, rfl, _⟩ := hq4
 generalize (subL a e1).length = g1 at *
 generalize e1.length = g2 at *
 generalize (subL o e2).length = g3 at *
 generalize e2.length = g4 at *
 replace hb00 := bl_call hb00 (Nat.le_refl _) hb2
 replace hx := hx.call hb2
 replace hd := hd.call hb2
 replace hr := hr.call hb2
 replace hol := hol.call hb2
 clear hb2
 go_upto_region 2 with fail
 have hq := Vs.new w2 [.slice B1 g1 e1c, .slice B2 g2 e2c, .slice B3 g3 e3c, .slice B4 g4 e4c] #[.slice B1 g1 e1c, .slice B2 g2 e2c, .slice B3 g3 e3c, .slice B4 g4 e4c] 48 rfl
 have hb03 : Below w2.heap.size w2 (w2.alloc (.cells #[.slice B1 g1 e1c, .slice B2 g2 e2c, .slice B3 g3 e3c, .slice B4 g4 e4c] 48)) := by repeat (first | exact bA | with_reducible assumption | apply bB)
 have hszn : w2.heap.size + 1 ≤ (w2.alloc (.cells #[.slice B1 g1 e1c, .slice B2 g2 e2c, .slice B3 g3 e3c, .slice B4 g4 e4c] 48)).heap.size := by simp only [World.size_alloc]; omega
 generalize (w2.alloc (.cells #[.slice B1 g1 e1c, .slice B2 g2 e2c, .slice B3 g3 e3c, .slice B4 g4 e4c] 48)) = w3 at hq hb03 hszn ⊢
 replace hb00 := bl_call hb00 (Nat.le_refl _) hb03
 replace hx := hx.call hb03
 replace hd := hd.call hb03
 replace hr := hr.call hb03
 replace hol := hol.call hb03
 clear hb03 hq hszn
 obtain ⟨⟨x0, x1, x2, x3, x4, x5, x6, x7⟩, ⟨x8, x9, x10, x11, x12, x13, x14, x15⟩, x16⟩ := hx.get8
 obtain ⟨d0, d1, d2, d3, d4⟩ := V2.mk hd.c0 hd.c1 hd.f0 hd.f1 hd.lt
 go_wp2_with fail
 clear x0 x1 x2 x3 x4 x5 x6 x7 x8 x9 x10 x11 x12 x13 x14 x15 x16 d0 d1 d2 d3 d4
 refine (HR1.out w3 hb00).mono ?_
 rintro e w4 ⟨r1, rfl, hR1, hle1, hb4⟩
 replace hb00 := bl_call hb00 (Nat.le_refl _) hb4
 replace hx := hx.call hb4
 replace hd := hd.call hb4
 replace hr := hr.call hb4
 replace hol := hol.call hb4
 clear hb4
 obtain ⟨z1, hz1⟩ : ∃ z, subL oa (subL a e1) = z := ⟨_, rfl⟩
 rw [hz1] at hR1 ⊢
 have HZ1 := Lib.hid hz1
 clear hz1
 obtain ⟨n1, hn1⟩ : ∃ n, z1.length = n := ⟨_, rfl⟩
 have hS1 : SlK w4 w4.heap.size (.slice (some ⟨r1, 0, none⟩) z1.length z1.length) z1 := hR1.slK (by have h := HL1.out; rw [HZ1.out] at h; omega) hR1.lt
 rw [hn1] at hS1 ⊢
 have HN1 := Lib.hid hn1
 clear hn1 hR1
 obtain ⟨⟨x0, x1, x2, x3, x4, x5, x6, x7⟩, ⟨x8, x9, x10, x11, x12, x13, x14, x15⟩, x16⟩ := hx.get8
 obtain ⟨d0, d1, d2, d3, d4⟩ := V2.mk hd.c0 hd.c1 hd.f0 hd.f1 hd.lt
 go_wp2_with fail
 clear x0 x1 x2 x3 x4 x5 x6 x7 x8 x9 x10 x11 x12 x13 x14 x15 x16 d0 d1 d2 d3 d4
 refine (HR2.out w4 hb00).mono ?_
 rintro e w5 ⟨r2, rfl, hR2, hle2, hb5⟩
 replace hb00 := bl_call hb00 (Nat.le_refl _) hb5
 replace hr := hr.call hb5
 replace hol := hol.call hb5
 replace hS1 := hS1.later hb5
 clear hb5
 obtain ⟨z2, hz2⟩ : ∃ z, subL oo (subL o e2) = z := ⟨_, rfl⟩
 rw [hz2] at hR2 ⊢
 have HZ2 := Lib.hid hz2
 clear hz2
 obtain ⟨n2, hn2⟩ : ∃ n, z2.length = n := ⟨_, rfl⟩
 have hS2 : SlK w5 w5.heap.size (.slice (some ⟨r2, 0, none⟩) z2.length z2.length) z2 := hR2.slK (by have h := HL2.out; rw [HZ2.out] at h; omega) hR2.lt
 rw [hn2] at hS2 ⊢
 have HN2 := Lib.hid hn2
 clear hn2 hR2
 have hrl := hr.lt
 obtain ⟨r0, r1, r2, r3, r4⟩ := V2.mk hr.c0 hr.c1 hr.f0 hr.f1 hr.lt
 go_wp2_with fail
 exact bodyPost_ret (results_draws (b := w.heap.size + 1 + 1) (V2.set hr _ _) rfl rfl) rfl ⟨_, _, rfl, (by rw [HZ1.out]; exact hS1.set2 hol _ _), (by rw [HZ2.out]; exact hS2.set2 hol _ _), bl_st hb00 (by omega) _ _⟩

set_option maxHeartbeats 4000000 in
theorem tape_Other9 (k b l m c : Int) (p : Int) (s : ByteArray) (nq : Nat) (va vb vc vd d1 d2 : Value) (a o e1 e2 oo : KL f) (oa : List E) (w : World)
  (HC : Hid (∀ wz, Calls Try.prog 27 #[.agg #[.int .u8 k, .int .u8 f, .int .i64 b, .int .i64 l, .int .i64 m, .int .i64 c, .int .i64 p, .string s]] wz (RetC 0 wz)))
  (HI : Hid (∀ wz, Calls Try.prog 28 #[.agg #[.int .u8 k, .int .u8 f, .int .i64 b, .int .i64 l, .int .i64 m, .int .i64 c]] wz (RetI a.length wz)))
  (HP : Hid (∀ wz, Calls Try.prog 8 #[.agg #[.int .u8 k, .int .u8 f, .int .i64 b, .int .i64 l, .int .i64 m, .int .i64 c]] wz (RetI nq wz)))
  (ha : SlK w w.heap.size va a) (ho : SlK w w.heap.size vb o) (hoa : SlE w w.heap.size vc oa) (he1 : SlK w w.heap.size d1 e1) (he2 : SlK w w.heap.size d2 e2) (h1 : a.length = e1.length) (h2 : o.length = e2.length) (h3 : oa.length ≠ e1.length) (io : AllIn (Pm f : Nat) oa) (hp : IntKind.i64.wrap ((nq : Int) * p) = (o.length : Nat)) (hl1 : a.length ≤ 1000000) (hl2 : o.length ≤ 1000000) :
  Calls Try.prog 11 #[.agg #[.int .u8 k, .int .u8 f, .int .i64 b, .int .i64 l, .int .i64 m, .int .i64 c, .int .i64 p, .string s], va, vb, vc, vd, .agg #[d1, d2]] w fun e w' => e = .returned (.tuple #[.agg #[.slice none 0 0, .slice none 0 0], .int .i64 9]) ∧ Below w.heap.size w w' := by
 have HS : Hid (∀ wz, Below w.heap.size w wz → _) := fun wz hb => tape_SpreadK hf k b l m c p s nq va vb d1 d2 a o e1 e2 wz HC HI HP (ha.later hb) (ho.later hb) (he1.later hb) (he2.later hb) h1 h2 hp hl1 hl2
 have HR1 : Hid (∀ wz, Below w.heap.size w wz → _) := fun wz hb => tape_RetapeK9 hf va vc d1 a e1 oa wz (ha.later hb) (hoa.later hb) (he1.later hb) h1 h3 hl1 io
 have hfb0 : (1 : Int) ≤ (f : Int) := by rcases hf.or with rfl | rfl <;> omega
 have hfb1 : (f : Int) ≤ 2 := by rcases hf.or with rfl | rfl <;> omega
 obtain ⟨A1, c1, rfl, _, _, _⟩ := ha
 obtain ⟨A2, c2, rfl, _, _, _⟩ := ho
 obtain ⟨⟨A3, c3, rfl, _, _, _⟩, _⟩ := hoa
 clear he1 he2 h1 h2 h3 hp hl1 hl2 HC HI HP io
 generalize a.length = m1 at *
 generalize o.length = m2 at *
 generalize oa.length = m3 at *
 go_enter Try.func11, Try.ntmps11
 go_upto_region 1 with fail
 have hx := ((Vs.new w [.int .u8 k, .int .u8 f, .int .i64 b, .int .i64 l, .int .i64 m, .int .i64 c, .int .i64 p, .string s] #[.int .u8 k, .int .u8 f, .int .i64 b, .int .i64 l, .int .i64 m, .int .i64 c, .int .i64 p, .string s] 34 rfl).alloc (.cells #[d1, d2] 44)).alloc (.cells #[.slice none 0 0, .slice none 0 0] 44)
 have hd := (V2.new (w.alloc (.cells #[.int .u8 k, .int .u8 f, .int .i64 b, .int .i64 l, .int .i64 m, .int .i64 c, .int .i64 p, .string s] 34)) (d1) (d2) 44).alloc (.cells #[.slice none 0 0, .slice none 0 0] 44)
 have hr := V2.new ((w.alloc (.cells #[.int .u8 k, .int .u8 f, .int .i64 b, .int .i64 l, .int .i64 m, .int .i64 c, .int .i64 p, .string s] 34)).alloc (.cells #[d1, d2] 44)) (.slice none 0 0) (.slice none 0 0) 44
 have hol := OnlySl.new ((w.alloc (.cells #[.int .u8 k, .int .u8 f, .int .i64 b, .int .i64 l, .int .i64 m, .int .i64 c, .int .i64 p, .string s] 34)).alloc (.cells #[d1, d2] 44)) #[.slice none 0 0, .slice none 0 0] 44 (by simp)
 simp only [World.size_alloc] at hd hr hol
 have hb00 : Below w.heap.size w (((w.alloc (.cells #[.int .u8 k, .int .u8 f, .int .i64 b, .int .i64 l, .int .i64 m, .int .i64 c, .int .i64 p, .string s] 34)).alloc (.cells #[d1, d2] 44)).alloc (.cells #[.slice none 0 0, .slice none 0 0] 44)) := by repeat (first | exact bA | with_reducible assumption | apply bB)
 have hszn : w.heap.size + 3 ≤ (((w.alloc (.cells #[.int .u8 k, .int .u8 f, .int .i64 b, .int .i64 l, .int .i64 m, .int .i64 c, .int .i64 p, .string s] 34)).alloc (.cells #[d1, d2] 44)).alloc (.cells #[.slice none 0 0, .slice none 0 0] 44)).heap.size := by simp only [World.size_alloc]; omega
 generalize (((w.alloc (.cells #[.int .u8 k, .int .u8 f, .int .i64 b, .int .i64 l, .int .i64 m, .int .i64 c, .int .i64 p, .string s] 34)).alloc (.cells #[d1, d2] 44)).alloc (.cells #[.slice none 0 0, .slice none 0 0] 44)) = w1 at hx hd hr hol hb00 hszn ⊢
 obtain ⟨⟨x0, x1, x2, x3, x4, x5, x6, x7⟩, ⟨x8, x9, x10, x11, x12, x13, x14, x15⟩, x16⟩ := hx.get8
 obtain ⟨d0, d1, d2, d3, d4⟩ := V2.mk hd.c0 hd.c1 hd.f0 hd.f1 hd.lt
 go_wp2_with fail
 clear x0 x1 x2 x3 x4 x5 x6 x7 x8 x9 x10 x11 x12 x13 x14 x15 x16 d0 d1 d2 d3 d4
 refine (HS.out w1 hb00).mono ?_
 rintro e w2 ⟨q1, q2, q3, q4, rfl, hq1, hq2, hq3, hq4, _, hb2⟩
 obtain ⟨B1, e1c, rfl, _⟩ := hq1
 obtain ⟨B2, e2c, rfl, _⟩ := hq2
 obtain ⟨B3, e3c, rfl, _⟩ := hq3
 obtain ⟨B4, e4c, rfl, _⟩ := hq4
 generalize (subL a e1).length = g1 at *
 generalize e1.length = g2 at *
 generalize (subL o e2).length = g3 at *
 generalize e2.length = g4 at *
 replace hb00 := bl_call hb00 (Nat.le_refl _) hb2
 replace hx := hx.call hb2
 replace hd := hd.call hb2
 replace hr := hr.call hb2
 replace hol := hol.call hb2
 clear hb2
 go_upto_region 2 with fail
 have hq := Vs.new w2 [.slice B1 g1 e1c, .slice B2 g2 e2c, .slice B3 g3 e3c, .slice B4 g4 e4c] #[.slice B1 g1 e1c, .slice B2 g2 e2c, .slice B3 g3 e3c, .slice B4 g4 e4c] 48 rfl
 have hb03 : Below w2.heap.size w2 (w2.alloc (.cells #[.slice B1 g1 e1c, .slice B2 g2 e2c, .slice B3 g3 e3c, .slice B4 g4 e4c] 48)) := by repeat (first | exact bA | with_reducible assumption | apply bB)
 have hszn : w2.heap.size + 1 ≤ (w2.alloc (.cells #[.slice B1 g1 e1c, .slice B2 g2 e2c, .slice B3 g3 e3c, .slice B4 g4 e4c] 48)).heap.size := by simp only [World.size_alloc]; omega
 generalize (w2.alloc (.cells #[.slice B1 g1 e1c, .slice B2 g2 e2c, .slice B3 g3 e3c, .slice B4 g4 e4c] 48)) = w3 at hq hb03 hszn ⊢
 replace hb00 := bl_call hb00 (Nat.le_refl _) hb03
 replace hx := hx.call hb03
 replace hd := hd.call hb03
 replace hr := hr.call hb03
 replace hol := hol.call hb03
 clear hb03 hq hszn
 obtain ⟨⟨x0, x1, x2, x3, x4, x5, x6, x7⟩, ⟨x8, x9, x10, x11, x12, x13, x14, x15⟩, x16⟩ := hx.get8
 obtain ⟨d0, d1, d2, d3, d4⟩ := V2.mk hd.c0 hd.c1 hd.f0 hd.f1 hd.lt
 go_wp2_with fail
 clear x0 x1 x2 x3 x4 x5 x6 x7 x8 x9 x10 x11 x12 x13 x14 x15 x16 d0 d1 d2 d3 d4
 refine (HR1.out w3 hb00).mono ?_
 rintro e w4 ⟨rfl, hb4⟩
 replace hb00 := bl_call hb00 (Nat.le_refl _) hb4
 replace hx := hx.call hb4
 replace hd := hd.call hb4
 replace hr := hr.call hb4
 replace hol := hol.call hb4
 clear hb4
 have hrl := hr.lt
 obtain ⟨r0, r1, r2, r3, r4⟩ := V2.mk hr.c0 hr.c1 hr.f0 hr.f1 hr.lt
 go_wp2_with fail
 exact bodyPost_ret (results_draws (b := w.heap.size + 1 + 1) (V2.set hr _ _) rfl rfl) rfl ⟨rfl, bl_st hb00 (by omega) _ _⟩
end

end Go.Proofs.Ytpggflcapfkgpaa

namespace Go.Proofs.Ytpggflcapfkgpaa
open Go.RowKit Fm
set_option linter.unusedVariables false
set_option maxRecDepth 100000

def RetV (f n : Nat) (w : World) (e : Ending) (w' : World) : Prop :=
 ∃ (g : Nat) (zs : KL f), zs.length = n ∧ e = .returned (.slice (some ⟨g, 0, none⟩) n n) ∧ BlkE w' g (esK zs) ∧ w.heap.size ≤ g ∧ Below w.heap.size w w'

section
variable {f : Nat} (hf : IsF f)
include hf

end

end Go.Proofs.Ytpggflcapfkgpaa
