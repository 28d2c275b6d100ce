/-
 TaI, TaJ, Inv, RwA, TaG, RefV, RunM, Exc, PsX: what the statements of this layer share.
-/
import Derived.BigQuiet
import Derived.Laws.Bits64b
import Derived.Test.YtbakkmfjamcbfaaKar
namespace Go.Proofs.Ytbakkmfjamcbfaa
open Go.RowKit Fm
set_option linter.unusedVariables false
set_option maxRecDepth 100000

section
variable {P : Program} {Q : Exit → Act → World → Prop}
theorem region_Z4 {id n m f : Nat} {l : List Oper} {a : Act} {w : World} {α β γ δ : Type} (R : α → β → γ → δ → World → Prop) (T S : World → Prop) (hST : ∀ w, S w → T w) (hC : Clo S) (hS : S w.drew) {E : α → β → γ → δ → Act} (hm : P.follows .mixedOrders = true) (hB : partsB .any l.toArray n m (Array.replicate l.length false) = true) (hf : f + (m - n) = l.length)
  (h : WpX P .any l.toArray Q n m (fun a w => ∃ x y z u, a = E x y z u ∧ R x y z u w) f (Array.replicate l.length false) a T S)
  (hc : ∀ x y z u w', R x y z u w' → wpList P l.toArray Q ((l.drop n).take (m - n)) (E x y z u) w') : (Code.region id l.toArray true).wp P Q a w :=
 region_X T S hST hC hS hm hB hf (h.monoZ fun _ w ⟨x, y, z, u, e, hr⟩ => e ▸ hc x y z u w hr)
end

/-! ### a region that makes totals, and stores one into a new variable -/
def AwT (w0 : World) (o1 o2 o3 o4 : Option Nat) (wz : World) : Prop := Below w0.heap.size w0 wz
structure AwK (w0 : World) (z1 z2 z3 : List E) (old : List Value) (new : Nat → List Value) (o1 o2 o3 o4 : Option Nat) (s : Bool) (wz : World) : Prop where
 t : Below w0.heap.size w0 wz
 a : ∀ g, o1 = some g → w0.heap.size ≤ g ∧ BlkE wz g z1
 b : ∀ g, o2 = some g → w0.heap.size ≤ g ∧ BlkE wz g z2
 c : ∀ g, o3 = some g → w0.heap.size ≤ g ∧ BlkE wz g z3
 d : ∀ x, o4 = some x → w0.heap.size ≤ x ∧ (s = false → Vs wz x old) ∧ (s = true → ∀ g, o3 = some g → Vs wz x (new g))
section
variable {w0 w w' : World} {z1 z2 z3 : List E} {old : List Value} {new : Nat → List Value} {o1 o2 o3 o4 : Option Nat} {s : Bool}
theorem AwK.weak (o1 o2 o3 o4 : Option Nat) (s : Bool) (w : World) (h : AwK w0 z1 z2 z3 old new o1 o2 o3 o4 s w) : AwT w0 o1 o2 o3 o4 w := h.t
theorem AwK.clo : Clo (AwK w0 z1 z2 z3 old new o1 o2 o3 o4 s) := fun w w' h hb => ⟨bl_call h.t (Nat.le_refl _) hb, fun g e => ⟨(h.a g e).1, (h.a g e).2.call hb⟩, fun g e => ⟨(h.b g e).1, (h.b g e).2.call hb⟩, fun g e => ⟨(h.c g e).1, (h.c g e).2.call hb⟩, fun x e => ⟨(h.d x e).1, fun e1 => ((h.d x e).2.1 e1).call hb, fun e1 g e2 => ((h.d x e).2.2 e1 g e2).call hb⟩⟩
theorem AwK.start (w0 : World) : AwK w0 z1 z2 z3 old new none none none none false w0.drew :=
 ⟨(Below.refl _ _).drew, fun _ e => (by cases e), fun _ e => (by cases e), fun _ e => (by cases e), fun _ e => (by cases e)⟩
theorem AwK.mkA {g : Nat} (h : AwK w0 z1 z2 z3 old new none o2 o3 o4 s w) (hB : BlkE w' g z1) (hg : w.heap.size ≤ g) (hb : Below w.heap.size w w') : AwK w0 z1 z2 z3 old new (some g) o2 o3 o4 s w' := by
 have h2 := AwK.clo _ _ h hb
 refine ⟨h2.t, fun g' e => ?_, h2.b, h2.c, h2.d⟩
 injection e with e
 subst e
 exact ⟨Nat.le_trans h.t.size hg, hB⟩
theorem AwK.mkB {cs : Array Value} (h : AwK w0 z1 z2 z3 old new o1 none o3 o4 s w) (hc : cs = (cellsE z2).toArray) : AwK w0 z1 z2 z3 old new o1 (some w.heap.size) o3 o4 s (w.alloc (.cells cs 99)) := by
 have h2 := AwK.clo _ _ h ((Below.refl w.heap.size w).alloc (Nat.le_refl _) (.cells cs 99))
 refine ⟨h2.t, h2.a, fun g' e => ?_, h2.c, h2.d⟩
 injection e with e
 subst e
 exact ⟨h.t.size, BlkE.new w z2 cs hc⟩
theorem AwK.mkC {g : Nat} (h : AwK w0 z1 z2 z3 old new o1 o2 none o4 false w) (hB : BlkE w' g z3) (hg : w.heap.size ≤ g) (hb : Below w.heap.size w w') : AwK w0 z1 z2 z3 old new o1 o2 (some g) o4 false w' := by
 have h2 := AwK.clo _ _ h hb
 refine ⟨h2.t, h2.a, h2.b, fun g' e => ?_, fun x e => ⟨(h2.d x e).1, (h2.d x e).2.1, fun e1 => (by cases e1)⟩⟩
 injection e with e
 subst e
 exact ⟨Nat.le_trans h.t.size hg, hB⟩
theorem AwK.mkD {cs : Array Value} {t : TypeId} (h : AwK w0 z1 z2 z3 old new o1 o2 o3 none false w) (hc : cs = old.toArray) : AwK w0 z1 z2 z3 old new o1 o2 o3 (some w.heap.size) false (w.alloc (.cells cs t)) := by
 have h2 := AwK.clo _ _ h ((Below.refl w.heap.size w).alloc (Nat.le_refl _) (.cells cs t))
 refine ⟨h2.t, h2.a, h2.b, h2.c, fun x e => ?_⟩
 injection e with e
 subst e
 exact ⟨h.t.size, fun _ => Vs.new w old cs t hc, fun e1 => (by cases e1)⟩
theorem AwK.put {g x : Nat} {m : Int} {k : List Int} {A : Option Addr} {n c : Nat} (h : AwK w0 z1 z2 z3 (totL (.slice A n c) m k) new o1 o2 (some g) (some x) false w) (hl : (new g).length = (totL (.slice A n c) m k).length) : AwK w0 z1 z2 z3 (totL (.slice A n c) m k) new o1 o2 (some g) (some x) true (w.setCells x 0 (new g)) := by
 obtain ⟨hx, hv, _⟩ := h.d x rfl
 have hv := hv rfl
 refine ⟨bl_setCells h.t hx _ _, fun q e => ⟨(h.a q e).1, (h.a q e).2.farC (fun e2 => blk_vs (h.a q e).2 hv e2.symm) _ _⟩, fun q e => ⟨(h.b q e).1, (h.b q e).2.farC (fun e2 => blk_vs (h.b q e).2 hv e2.symm) _ _⟩, fun q e => ⟨(h.c q e).1, (h.c q e).2.farC (fun e2 => blk_vs (h.c q e).2 hv e2.symm) _ _⟩, fun y e => ?_⟩
 injection e with e
 subst e
 refine ⟨hx, fun e1 => (by cases e1), fun _ g' e2 => ?_⟩
 injection e2 with e2
 subst e2
 exact hv.setW hl
end

def id1 : List Int := [1, 0, 0, 0, 0, 0, 0, 0, 0, 0, 0, 0, 0, 0, 0, 0]
theorem id1_b8 : B8 id1 := fun x hx => by
 simp only [id1, List.mem_cons, List.not_mem_nil, or_false, or_self] at hx
 rcases hx with rfl | rfl <;> omega
theorem build_id1 (w : World) : (Instr.build 34 #[(0, .int .u8 1)]).run Try.prog w = .ok (.agg (cells8 id1).toArray) w := by kernel_rfl
theorem awake15_five : esK ([5] : KL 1) = [(5, 0)] := by decide +kernel
theorem awake15_sum : esK (addL (zK 1 1) ([5] : KL 1)) = [(5, 0)] := by decide +kernel

set_option maxHeartbeats 8000000 in
theorem law15_Awake (w : World) : Calls Try.prog 24 #[] w fun e w' => e = .returned (.bool true) ∧ Below w.heap.size w w' := by
 obtain ⟨F, y, s, hF, hy, hs32, hFf, hyc, hst, hTSK⟩ := law13_TaskX 0 0 0 0 0 0 0 0 (by omega) (by omega) (by omega) (by omega) (by omega) (by omega) (by omega) (by omega)
 obtain rfl : y = .count := hyc (by decide)
 obtain rfl : F = 1 := by omega
 have HC : ∀ wz, Calls Try.prog 43 #[.agg #[.int .u8 ((CK.count.k : Nat) : Int), .int .u8 ((1 : Nat) : Int), .int .i64 ((CK.count.b : Nat) : Int), .int .i64 ((CK.count.l : Nat) : Int), .int .i64 ((CK.count.m : Nat) : Int), .int .i64 ((CK.count.c : Nat) : Int), .int .i64 1, .string s]] wz (RetC 0 wz) :=
  fun wz => small_code (y := .count) (by decide) trivial isF1 1 (by omega) s hs32 wz
 have HO : ∀ wz, Calls Try.prog 32 #[.agg #[.int .u8 ((CK.count.k : Nat) : Int), .int .u8 ((1 : Nat) : Int), .int .i64 ((CK.count.b : Nat) : Int), .int .i64 ((CK.count.l : Nat) : Int), .int .i64 ((CK.count.m : Nat) : Int), .int .i64 ((CK.count.c : Nat) : Int)]] wz (RetI 1 wz) := fun wz => circuit_Out 1 .count trivial wz
 have HNEW := Lib.hid (fun wz => total_New (f := 1) _ _ _ _ _ _ s 1 (by omega) HC HO wz)
 have HADD := Lib.hid (fun (vx vo : Value) (xs os : KL 1) wz (hx : SlK wz wz.heap.size vx xs) (ho : SlK wz wz.heap.size vo os) (h1 : xs.length = 1) (h2 : os.length = 1) => total_Add isF1 _ _ _ _ _ _ s 1 (by omega) HC HO 0 (by omega) z16 id1 z16_length rfl id1_b8 vx vo xs os wz hx ho h1 h2)
 have HOF := Lib.hid (fun wz => total_OfId id1 rfl id1_b8 wz)
 have hxz : xorL z16 (hashF 7 id1) = hashF 7 id1 := xorL_zero 16 _ (hashF_ok 7 id1).1 (hashF_ok 7 id1).2
 have HHL := Lib.hid (hashF_ok 7 id1).1
 rw [hxz] at HADD
 have HTSK := Lib.hid hTSK
 rw [show (1 : Int) + 0 % 3 = 1 from rfl] at HTSK
 clear hyc hst hTSK HC HO hFf hF hs32 hxz
 have HSMB : Hid (∀ wz, (Instr.build 66 #[]).run Try.prog wz = .ok (.agg #[.int .u8 0, .int .u8 0, .int .u8 0, .int .u8 0, .int .u8 0, .int .u8 0, .int .u8 0, .int .u8 0]) wz) := fun wz => by kernel_rfl
 generalize ((CK.count.k : Nat) : Int) = yk at HNEW HADD HTSK
 generalize ((CK.count.b : Nat) : Int) = yb at HNEW HADD HTSK
 generalize ((CK.count.l : Nat) : Int) = yl at HNEW HADD HTSK
 generalize ((CK.count.m : Nat) : Int) = ym at HNEW HADD HTSK
 generalize ((CK.count.c : Nat) : Int) = yc at HNEW HADD HTSK
 generalize ((1 : Nat) : Int) = yf at HNEW HTSK HADD
 generalize hashF 7 id1 = h9 at HADD HOF HHL
 have hb00 : Below w.heap.size w w := Below.refl _ _
 go_enter Try.func24, Try.ntmps24
 go_upto_region 1 with fail
 refine wp_region_lit ?_
 refine wpList_valD (some 4) rfl rfl (exec_build rfl (by kernel_rfl) (HSMB.out _)) ?_
 simp only [Zp, Zq, Zr, Zs]
 refine wpList_callD (some 5) rfl rfl 21 _ ?_ (HTSK.out _) ?_
 ·go_simp; try (with_reducible rfl)
 rintro e w1 ⟨rfl, hb1⟩
 refine ⟨_, rfl, ?_⟩
 simp only [Zp, Zq, Zr, Zs]
 replace hb00 := bl_call hb00 (Nat.le_refl _) hb1
 go_upto_region 2 with fail
 have hT := Vs.new w1 [.int .u8 yk, .int .u8 yf, .int .i64 yb, .int .i64 yl, .int .i64 ym, .int .i64 yc, .int .i64 1, .string s] #[.int .u8 yk, .int .u8 yf, .int .i64 yb, .int .i64 yl, .int .i64 ym, .int .i64 yc, .int .i64 1, .string s] 62 rfl
 have hbA : Below w1.heap.size w1 (w1.alloc (.cells #[.int .u8 yk, .int .u8 yf, .int .i64 yb, .int .i64 yl, .int .i64 ym, .int .i64 yc, .int .i64 1, .string s] 62)) := by repeat (first | exact bA | with_reducible assumption | apply bB)
 replace hb00 := bl_call hb00 (Nat.le_refl _) hbA
 clear hbA
 generalize w1.alloc (.cells #[.int .u8 yk, .int .u8 yf, .int .i64 yb, .int .i64 yl, .int .i64 ym, .int .i64 yc, .int .i64 1, .string s] 62) = w2 at hb00 hT ⊢
 have HTT := Lib.hid hT
 have HNL : Hid (∀ g : Nat, (totL (.slice (some ⟨g, 0, none⟩) 1 1) 1 h9).length = (totL (.slice none 0 0) 0 z16).length) := fun g => by rw [totL_length _ _ HHL.out, totL_length _ _ z16_length]
 apply region_Z4 (n := 12) (m := 13) (f := 12) (fun x0 x1 x2 x3 => (AwK w2 (esK (zK 1 1)) (esK ([5] : KL 1)) (esK (addL (zK 1 1) ([5] : KL 1))) (totL (.slice none 0 0) 0 z16) (fun g => totL (.slice (some ⟨g, 0, none⟩) 1 1) 1 h9)) (some x0) (some x1) (some x2) (some x3) true) ((AwT w2) none none none none) ((AwK w2 (esK (zK 1 1)) (esK ([5] : KL 1)) (esK (addL (zK 1 1) ([5] : KL 1))) (totL (.slice none 0 0) 0 z16) (fun g => totL (.slice (some ⟨g, 0, none⟩) 1 1) 1 h9)) none none none none false) ((AwK.weak _ _ _ _ _)) (AwK.clo) ((AwK.start w2))
 case hm => kernel_rfl
 case hB => kernel_rfl
 case hf => rfl
 case' h =>
  refine WpX.vD 0 (some 7) ?_ rfl rfl (by kernel_rfl) (fun _ _ _ h => h) rfl (fun wz hwz => ?_) ?_
  rotate_left
  ·(have hz := (HTT.out.call hwz).get8; obtain ⟨⟨z0, z1, z2, z3, z4, z5, z6, z7⟩, ⟨y0, y1, y2, y3, y4, y5, y6, y7⟩, y8⟩ := hz; go_simp; try (with_reducible rfl))
  simp only [Zp, Zq, Zr, Zs]
  refine WpX.vD 2 (some 9) ?_ rfl rfl (by kernel_rfl) (fun _ _ _ h => h) rfl (fun wz hwz => ?_) ?_
  rotate_left
  ·(have hz := (HTT.out.call hwz).get8; obtain ⟨⟨z0, z1, z2, z3, z4, z5, z6, z7⟩, ⟨y0, y1, y2, y3, y4, y5, y6, y7⟩, y8⟩ := hz; go_simp; try (with_reducible rfl))
  simp only [Zp, Zq, Zr, Zs]
  refine WpX.vD 3 (some 10) ?_ rfl rfl (by kernel_rfl) (fun _ _ _ h => h) rfl (fun wz hwz => ?_) ?_
  rotate_left
  ·(refine Eq.trans (exec_build rfl (by kernel_rfl) (build_id1 wz)) ?_; with_reducible rfl)
  simp only [Zp, Zq, Zr, Zs]
  refine WpX.vD 4 (some 11) ?_ rfl rfl (by kernel_rfl) (fun _ _ _ h => h) rfl (fun wz hwz => ?_) ?_
  rotate_left
  ·go_simp; try (with_reducible rfl)
  simp only [Zp, Zq, Zr, Zs]
  refine WpX.threeD 1 5 10 (some 8) (some 12) (some 2) rfl rfl rfl rfl rfl rfl (by kernel_rfl) (fun g : Nat => Value.agg (totL (.slice (some ⟨g, 0, none⟩) 1 1) 0 z16).toArray) (fun ga => (AwT w2) (some ga) none none none) (fun ga => (AwK w2 (esK (zK 1 1)) (esK ([5] : KL 1)) (esK (addL (zK 1 1) ([5] : KL 1))) (totL (.slice none 0 0) 0 z16) (fun g => totL (.slice (some ⟨g, 0, none⟩) 1 1) 1 h9)) (some ga) none none none false) (Turns.call rfl (fun _ _ h => h) (fun _ => (AwK.weak _ _ _ _ _)) (fun _ => AwK.clo) (fun wz hS => (HNEW.out wz).mono fun e w' ⟨g, he, h1, h2, hb'⟩ => ⟨g, he, hS.mkA h1 h2 hb'⟩) (fun wz hS => by go_simp; try (with_reducible rfl))) (fun b : Nat => Value.slice (some ⟨b, 0, none⟩) 1 1) (fun nb => (AwT w2) none (some nb) none none) (fun nb => (AwK w2 (esK (zK 1 1)) (esK ([5] : KL 1)) (esK (addL (zK 1 1) ([5] : KL 1))) (totL (.slice none 0 0) 0 z16) (fun g => totL (.slice (some ⟨g, 0, none⟩) 1 1) 1 h9)) none (some nb) none none false) (Turns.val rfl (fun _ _ h => h) (fun _ => (AwK.weak _ _ _ _ _)) (fun _ => AwK.clo) (fun wz hS => ⟨wz.heap.size, wz.alloc (.cells #[.int .u64 5, .int .u64 0] 99), by go_simp; try (with_reducible rfl), hS.mkB (by rw [awake15_five]; rfl)⟩)) (fun x : Nat => Value.pointer (some ⟨x, 0, none⟩)) (fun xb => (AwT w2) none none none (some xb)) (fun xb => (AwK w2 (esK (zK 1 1)) (esK ([5] : KL 1)) (esK (addL (zK 1 1) ([5] : KL 1))) (totL (.slice none 0 0) 0 z16) (fun g => totL (.slice (some ⟨g, 0, none⟩) 1 1) 1 h9)) none none none (some xb) false) (Turns.val rfl (fun _ _ h => h) (fun _ => (AwK.weak _ _ _ _ _)) (fun _ => AwK.clo) (fun wz hS => ⟨wz.heap.size, wz.alloc (.cells #[.slice none 0 0, .int .i64 0, .int .u8 0, .int .u8 0, .int .u8 0, .int .u8 0, .int .u8 0, .int .u8 0, .int .u8 0, .int .u8 0, .int .u8 0, .int .u8 0, .int .u8 0, .int .u8 0, .int .u8 0, .int .u8 0, .int .u8 0, .int .u8 0] 76), by go_simp; try (with_reducible rfl), hS.mkD rfl⟩)) (fun ga => ?rz2_27a) (fun nb => ?rz2_27b) (fun xb => ?rz2_27c)
  case' rz2_27a =>
   simp only [Zp, Zq, Zr, Zs]
   refine WpX.twoD 5 10 (some 12) (some 2) rfl rfl rfl rfl (by kernel_rfl) (fun b : Nat => Value.slice (some ⟨b, 0, none⟩) 1 1) (fun nb => (AwT w2) (some ga) (some nb) none none) (fun nb => (AwK w2 (esK (zK 1 1)) (esK ([5] : KL 1)) (esK (addL (zK 1 1) ([5] : KL 1))) (totL (.slice none 0 0) 0 z16) (fun g => totL (.slice (some ⟨g, 0, none⟩) 1 1) 1 h9)) (some ga) (some nb) none none false) (Turns.val rfl (fun _ _ h => h) (fun _ => (AwK.weak _ _ _ _ _)) (fun _ => AwK.clo) (fun wz hS => ⟨wz.heap.size, wz.alloc (.cells #[.int .u64 5, .int .u64 0] 99), by go_simp; try (with_reducible rfl), hS.mkB (by rw [awake15_five]; rfl)⟩)) (fun x : Nat => Value.pointer (some ⟨x, 0, none⟩)) (fun xb => (AwT w2) (some ga) none none (some xb)) (fun xb => (AwK w2 (esK (zK 1 1)) (esK ([5] : KL 1)) (esK (addL (zK 1 1) ([5] : KL 1))) (totL (.slice none 0 0) 0 z16) (fun g => totL (.slice (some ⟨g, 0, none⟩) 1 1) 1 h9)) (some ga) none none (some xb) false) (Turns.val rfl (fun _ _ h => h) (fun _ => (AwK.weak _ _ _ _ _)) (fun _ => AwK.clo) (fun wz hS => ⟨wz.heap.size, wz.alloc (.cells #[.slice none 0 0, .int .i64 0, .int .u8 0, .int .u8 0, .int .u8 0, .int .u8 0, .int .u8 0, .int .u8 0, .int .u8 0, .int .u8 0, .int .u8 0, .int .u8 0, .int .u8 0, .int .u8 0, .int .u8 0, .int .u8 0, .int .u8 0, .int .u8 0] 76), by go_simp; try (with_reducible rfl), hS.mkD rfl⟩)) (fun nb => ?rz2_28a) (fun xb => ?rz2_28b)
   case' rz2_28a =>
    simp only [Zp, Zq, Zr, Zs]
    refine WpX.twoD 6 10 (some 13) (some 2) rfl rfl rfl rfl (by kernel_rfl) (fun g : Nat => Value.tuple #[.agg (totL (.slice (some ⟨g, 0, none⟩) 1 1) 1 h9).toArray, .int .i64 0]) (fun gc => (AwT w2) (some ga) (some nb) (some gc) none) (fun gc => (AwK w2 (esK (zK 1 1)) (esK ([5] : KL 1)) (esK (addL (zK 1 1) ([5] : KL 1))) (totL (.slice none 0 0) 0 z16) (fun g => totL (.slice (some ⟨g, 0, none⟩) 1 1) 1 h9)) (some ga) (some nb) (some gc) none false) (Turns.call rfl (fun _ _ h => h) (fun _ => (AwK.weak _ _ _ _ _)) (fun _ => AwK.clo) (fun wz hS => (HADD.out _ _ (zK 1 1) [5] wz (BlkE.slNn (n := 1) (hS.a ga rfl).2 rfl (by omega)) (BlkE.slNn (n := 1) (hS.b nb rfl).2 rfl (by omega)) rfl rfl).mono fun e w' ⟨g, he, h1, h2, hb'⟩ => ⟨g, he, hS.mkC h1 h2 hb'⟩) (fun wz hS => by go_simp; try (with_reducible rfl))) (fun x : Nat => Value.pointer (some ⟨x, 0, none⟩)) (fun xb => (AwT w2) (some ga) (some nb) none (some xb)) (fun xb => (AwK w2 (esK (zK 1 1)) (esK ([5] : KL 1)) (esK (addL (zK 1 1) ([5] : KL 1))) (totL (.slice none 0 0) 0 z16) (fun g => totL (.slice (some ⟨g, 0, none⟩) 1 1) 1 h9)) (some ga) (some nb) none (some xb) false) (Turns.val rfl (fun _ _ h => h) (fun _ => (AwK.weak _ _ _ _ _)) (fun _ => AwK.clo) (fun wz hS => ⟨wz.heap.size, wz.alloc (.cells #[.slice none 0 0, .int .i64 0, .int .u8 0, .int .u8 0, .int .u8 0, .int .u8 0, .int .u8 0, .int .u8 0, .int .u8 0, .int .u8 0, .int .u8 0, .int .u8 0, .int .u8 0, .int .u8 0, .int .u8 0, .int .u8 0, .int .u8 0, .int .u8 0] 76), by go_simp; try (with_reducible rfl), hS.mkD rfl⟩)) (fun gc => ?rz2_29a) (fun xb => ?rz2_29b)
    case' rz2_29a =>
     simp only [Zp, Zq, Zr, Zs]
     refine WpX.vD 7 (some 6) ?_ rfl rfl (by kernel_rfl) (fun _ _ _ h => h) rfl (fun wz hwz => ?_) ?_
     rotate_left
     ·go_simp; try (with_reducible rfl)
     simp only [Zp, Zq, Zr, Zs]
     refine WpX.vD 8 (some 14) ?_ rfl rfl (by kernel_rfl) (fun _ _ _ h => h) rfl (fun wz hwz => ?_) ?_
     rotate_left
     ·go_simp; try (with_reducible rfl)
     simp only [Zp, Zq, Zr, Zs]
     refine WpX.vD 9 (some 15) ?_ rfl rfl (by kernel_rfl) (fun _ _ _ h => h) rfl (fun wz hwz => ?_) ?_
     rotate_left
     ·go_simp; try (with_reducible rfl)
     simp only [Zp, Zq, Zr, Zs]
     refine WpX.oneD 10 (some 2) rfl rfl (by kernel_rfl) (fun x : Nat => Value.pointer (some ⟨x, 0, none⟩)) (fun xb => (AwT w2) (some ga) (some nb) (some gc) (some xb)) (fun xb => (AwK w2 (esK (zK 1 1)) (esK ([5] : KL 1)) (esK (addL (zK 1 1) ([5] : KL 1))) (totL (.slice none 0 0) 0 z16) (fun g => totL (.slice (some ⟨g, 0, none⟩) 1 1) 1 h9)) (some ga) (some nb) (some gc) (some xb) false) (Turns.val rfl (fun _ _ h => h) (fun _ => (AwK.weak _ _ _ _ _)) (fun _ => AwK.clo) (fun wz hS => ⟨wz.heap.size, wz.alloc (.cells #[.slice none 0 0, .int .i64 0, .int .u8 0, .int .u8 0, .int .u8 0, .int .u8 0, .int .u8 0, .int .u8 0, .int .u8 0, .int .u8 0, .int .u8 0, .int .u8 0, .int .u8 0, .int .u8 0, .int .u8 0, .int .u8 0, .int .u8 0, .int .u8 0] 76), by go_simp; try (with_reducible rfl), hS.mkD rfl⟩)) (fun xb => ?_)
     simp only [Zp, Zq, Zr, Zs]
     refine WpX.oneSkip 11 none rfl rfl (by kernel_rfl) ((AwT w2) (some ga) (some nb) (some gc) (some xb)) ((AwK w2 (esK (zK 1 1)) (esK ([5] : KL 1)) (esK (addL (zK 1 1) ([5] : KL 1))) (totL (.slice none 0 0) 0 z16) (fun g => totL (.slice (some ⟨g, 0, none⟩) 1 1) 1 h9)) (some ga) (some nb) (some gc) (some xb) true) (fun _ h => h) ((AwK.weak _ _ _ _ _)) (AwK.clo) rfl (fun wz hS => ?_) ?_
     ·(exact ⟨_, exec_store rfl (by kernel_rfl) (by kernel_rfl) (((hS.d xb rfl).2.1 rfl).storeT z16_length HHL.out rfl), hS.put (HNL.out _)⟩)
     simp only [Act.put]
     refine WpX.done (by kernel_rfl) (fun w3 hS => ⟨ga, nb, gc, xb, rfl, ?_⟩)
     ·exact hS
    case' rz2_29b =>
     simp only [Zp, Zq, Zr, Zs]
     refine WpX.oneD 6 (some 13) rfl rfl (by kernel_rfl) (fun g : Nat => Value.tuple #[.agg (totL (.slice (some ⟨g, 0, none⟩) 1 1) 1 h9).toArray, .int .i64 0]) (fun gc => (AwT w2) (some ga) (some nb) (some gc) (some xb)) (fun gc => (AwK w2 (esK (zK 1 1)) (esK ([5] : KL 1)) (esK (addL (zK 1 1) ([5] : KL 1))) (totL (.slice none 0 0) 0 z16) (fun g => totL (.slice (some ⟨g, 0, none⟩) 1 1) 1 h9)) (some ga) (some nb) (some gc) (some xb) false) (Turns.call rfl (fun _ _ h => h) (fun _ => (AwK.weak _ _ _ _ _)) (fun _ => AwK.clo) (fun wz hS => (HADD.out _ _ (zK 1 1) [5] wz (BlkE.slNn (n := 1) (hS.a ga rfl).2 rfl (by omega)) (BlkE.slNn (n := 1) (hS.b nb rfl).2 rfl (by omega)) rfl rfl).mono fun e w' ⟨g, he, h1, h2, hb'⟩ => ⟨g, he, hS.mkC h1 h2 hb'⟩) (fun wz hS => by go_simp; try (with_reducible rfl))) (fun gc => ?_)
     simp only [Zp, Zq, Zr, Zs]
     refine WpX.vD 7 (some 6) ?_ rfl rfl (by kernel_rfl) (fun _ _ _ h => h) rfl (fun wz hwz => ?_) ?_
     rotate_left
     ·go_simp; try (with_reducible rfl)
     simp only [Zp, Zq, Zr, Zs]
     refine WpX.vD 8 (some 14) ?_ rfl rfl (by kernel_rfl) (fun _ _ _ h => h) rfl (fun wz hwz => ?_) ?_
     rotate_left
     ·go_simp; try (with_reducible rfl)
     simp only [Zp, Zq, Zr, Zs]
     refine WpX.vD 9 (some 15) ?_ rfl rfl (by kernel_rfl) (fun _ _ _ h => h) rfl (fun wz hwz => ?_) ?_
     rotate_left
     ·go_simp; try (with_reducible rfl)
     simp only [Zp, Zq, Zr, Zs]
     refine WpX.oneSkip 11 none rfl rfl (by kernel_rfl) ((AwT w2) (some ga) (some nb) (some gc) (some xb)) ((AwK w2 (esK (zK 1 1)) (esK ([5] : KL 1)) (esK (addL (zK 1 1) ([5] : KL 1))) (totL (.slice none 0 0) 0 z16) (fun g => totL (.slice (some ⟨g, 0, none⟩) 1 1) 1 h9)) (some ga) (some nb) (some gc) (some xb) true) (fun _ h => h) ((AwK.weak _ _ _ _ _)) (AwK.clo) rfl (fun wz hS => ?_) ?_
     ·(exact ⟨_, exec_store rfl (by kernel_rfl) (by kernel_rfl) (((hS.d xb rfl).2.1 rfl).storeT z16_length HHL.out rfl), hS.put (HNL.out _)⟩)
     simp only [Act.put]
     refine WpX.done (by kernel_rfl) (fun w3 hS => ⟨ga, nb, gc, xb, rfl, ?_⟩)
     ·exact hS
   case' rz2_28b =>
    simp only [Zp, Zq, Zr, Zs]
    refine WpX.oneD 5 (some 12) rfl rfl (by kernel_rfl) (fun b : Nat => Value.slice (some ⟨b, 0, none⟩) 1 1) (fun nb => (AwT w2) (some ga) (some nb) none (some xb)) (fun nb => (AwK w2 (esK (zK 1 1)) (esK ([5] : KL 1)) (esK (addL (zK 1 1) ([5] : KL 1))) (totL (.slice none 0 0) 0 z16) (fun g => totL (.slice (some ⟨g, 0, none⟩) 1 1) 1 h9)) (some ga) (some nb) none (some xb) false) (Turns.val rfl (fun _ _ h => h) (fun _ => (AwK.weak _ _ _ _ _)) (fun _ => AwK.clo) (fun wz hS => ⟨wz.heap.size, wz.alloc (.cells #[.int .u64 5, .int .u64 0] 99), by go_simp; try (with_reducible rfl), hS.mkB (by rw [awake15_five]; rfl)⟩)) (fun nb => ?_)
    simp only [Zp, Zq, Zr, Zs]
    refine WpX.oneD 6 (some 13) rfl rfl (by kernel_rfl) (fun g : Nat => Value.tuple #[.agg (totL (.slice (some ⟨g, 0, none⟩) 1 1) 1 h9).toArray, .int .i64 0]) (fun gc => (AwT w2) (some ga) (some nb) (some gc) (some xb)) (fun gc => (AwK w2 (esK (zK 1 1)) (esK ([5] : KL 1)) (esK (addL (zK 1 1) ([5] : KL 1))) (totL (.slice none 0 0) 0 z16) (fun g => totL (.slice (some ⟨g, 0, none⟩) 1 1) 1 h9)) (some ga) (some nb) (some gc) (some xb) false) (Turns.call rfl (fun _ _ h => h) (fun _ => (AwK.weak _ _ _ _ _)) (fun _ => AwK.clo) (fun wz hS => (HADD.out _ _ (zK 1 1) [5] wz (BlkE.slNn (n := 1) (hS.a ga rfl).2 rfl (by omega)) (BlkE.slNn (n := 1) (hS.b nb rfl).2 rfl (by omega)) rfl rfl).mono fun e w' ⟨g, he, h1, h2, hb'⟩ => ⟨g, he, hS.mkC h1 h2 hb'⟩) (fun wz hS => by go_simp; try (with_reducible rfl))) (fun gc => ?_)
    simp only [Zp, Zq, Zr, Zs]
    refine WpX.vD 7 (some 6) ?_ rfl rfl (by kernel_rfl) (fun _ _ _ h => h) rfl (fun wz hwz => ?_) ?_
    rotate_left
    ·go_simp; try (with_reducible rfl)
    simp only [Zp, Zq, Zr, Zs]
    refine WpX.vD 8 (some 14) ?_ rfl rfl (by kernel_rfl) (fun _ _ _ h => h) rfl (fun wz hwz => ?_) ?_
    rotate_left
    ·go_simp; try (with_reducible rfl)
    simp only [Zp, Zq, Zr, Zs]
    refine WpX.vD 9 (some 15) ?_ rfl rfl (by kernel_rfl) (fun _ _ _ h => h) rfl (fun wz hwz => ?_) ?_
    rotate_left
    ·go_simp; try (with_reducible rfl)
    simp only [Zp, Zq, Zr, Zs]
    refine WpX.oneSkip 11 none rfl rfl (by kernel_rfl) ((AwT w2) (some ga) (some nb) (some gc) (some xb)) ((AwK w2 (esK (zK 1 1)) (esK ([5] : KL 1)) (esK (addL (zK 1 1) ([5] : KL 1))) (totL (.slice none 0 0) 0 z16) (fun g => totL (.slice (some ⟨g, 0, none⟩) 1 1) 1 h9)) (some ga) (some nb) (some gc) (some xb) true) (fun _ h => h) ((AwK.weak _ _ _ _ _)) (AwK.clo) rfl (fun wz hS => ?_) ?_
    ·(exact ⟨_, exec_store rfl (by kernel_rfl) (by kernel_rfl) (((hS.d xb rfl).2.1 rfl).storeT z16_length HHL.out rfl), hS.put (HNL.out _)⟩)
    simp only [Act.put]
    refine WpX.done (by kernel_rfl) (fun w3 hS => ⟨ga, nb, gc, xb, rfl, ?_⟩)
    ·exact hS
  case' rz2_27b =>
   simp only [Zp, Zq, Zr, Zs]
   refine WpX.twoD 1 10 (some 8) (some 2) rfl rfl rfl rfl (by kernel_rfl) (fun g : Nat => Value.agg (totL (.slice (some ⟨g, 0, none⟩) 1 1) 0 z16).toArray) (fun ga => (AwT w2) (some ga) (some nb) none none) (fun ga => (AwK w2 (esK (zK 1 1)) (esK ([5] : KL 1)) (esK (addL (zK 1 1) ([5] : KL 1))) (totL (.slice none 0 0) 0 z16) (fun g => totL (.slice (some ⟨g, 0, none⟩) 1 1) 1 h9)) (some ga) (some nb) none none false) (Turns.call rfl (fun _ _ h => h) (fun _ => (AwK.weak _ _ _ _ _)) (fun _ => AwK.clo) (fun wz hS => (HNEW.out wz).mono fun e w' ⟨g, he, h1, h2, hb'⟩ => ⟨g, he, hS.mkA h1 h2 hb'⟩) (fun wz hS => by go_simp; try (with_reducible rfl))) (fun x : Nat => Value.pointer (some ⟨x, 0, none⟩)) (fun xb => (AwT w2) none (some nb) none (some xb)) (fun xb => (AwK w2 (esK (zK 1 1)) (esK ([5] : KL 1)) (esK (addL (zK 1 1) ([5] : KL 1))) (totL (.slice none 0 0) 0 z16) (fun g => totL (.slice (some ⟨g, 0, none⟩) 1 1) 1 h9)) none (some nb) none (some xb) false) (Turns.val rfl (fun _ _ h => h) (fun _ => (AwK.weak _ _ _ _ _)) (fun _ => AwK.clo) (fun wz hS => ⟨wz.heap.size, wz.alloc (.cells #[.slice none 0 0, .int .i64 0, .int .u8 0, .int .u8 0, .int .u8 0, .int .u8 0, .int .u8 0, .int .u8 0, .int .u8 0, .int .u8 0, .int .u8 0, .int .u8 0, .int .u8 0, .int .u8 0, .int .u8 0, .int .u8 0, .int .u8 0, .int .u8 0] 76), by go_simp; try (with_reducible rfl), hS.mkD rfl⟩)) (fun ga => ?rz2_30a) (fun xb => ?rz2_30b)
   case' rz2_30a =>
    simp only [Zp, Zq, Zr, Zs]
    refine WpX.twoD 6 10 (some 13) (some 2) rfl rfl rfl rfl (by kernel_rfl) (fun g : Nat => Value.tuple #[.agg (totL (.slice (some ⟨g, 0, none⟩) 1 1) 1 h9).toArray, .int .i64 0]) (fun gc => (AwT w2) (some ga) (some nb) (some gc) none) (fun gc => (AwK w2 (esK (zK 1 1)) (esK ([5] : KL 1)) (esK (addL (zK 1 1) ([5] : KL 1))) (totL (.slice none 0 0) 0 z16) (fun g => totL (.slice (some ⟨g, 0, none⟩) 1 1) 1 h9)) (some ga) (some nb) (some gc) none false) (Turns.call rfl (fun _ _ h => h) (fun _ => (AwK.weak _ _ _ _ _)) (fun _ => AwK.clo) (fun wz hS => (HADD.out _ _ (zK 1 1) [5] wz (BlkE.slNn (n := 1) (hS.a ga rfl).2 rfl (by omega)) (BlkE.slNn (n := 1) (hS.b nb rfl).2 rfl (by omega)) rfl rfl).mono fun e w' ⟨g, he, h1, h2, hb'⟩ => ⟨g, he, hS.mkC h1 h2 hb'⟩) (fun wz hS => by go_simp; try (with_reducible rfl))) (fun x : Nat => Value.pointer (some ⟨x, 0, none⟩)) (fun xb => (AwT w2) (some ga) (some nb) none (some xb)) (fun xb => (AwK w2 (esK (zK 1 1)) (esK ([5] : KL 1)) (esK (addL (zK 1 1) ([5] : KL 1))) (totL (.slice none 0 0) 0 z16) (fun g => totL (.slice (some ⟨g, 0, none⟩) 1 1) 1 h9)) (some ga) (some nb) none (some xb) false) (Turns.val rfl (fun _ _ h => h) (fun _ => (AwK.weak _ _ _ _ _)) (fun _ => AwK.clo) (fun wz hS => ⟨wz.heap.size, wz.alloc (.cells #[.slice none 0 0, .int .i64 0, .int .u8 0, .int .u8 0, .int .u8 0, .int .u8 0, .int .u8 0, .int .u8 0, .int .u8 0, .int .u8 0, .int .u8 0, .int .u8 0, .int .u8 0, .int .u8 0, .int .u8 0, .int .u8 0, .int .u8 0, .int .u8 0] 76), by go_simp; try (with_reducible rfl), hS.mkD rfl⟩)) (fun gc => ?rz2_31a) (fun xb => ?rz2_31b)
    case' rz2_31a =>
     simp only [Zp, Zq, Zr, Zs]
     refine WpX.vD 7 (some 6) ?_ rfl rfl (by kernel_rfl) (fun _ _ _ h => h) rfl (fun wz hwz => ?_) ?_
     rotate_left
     ·go_simp; try (with_reducible rfl)
     simp only [Zp, Zq, Zr, Zs]
     refine WpX.vD 8 (some 14) ?_ rfl rfl (by kernel_rfl) (fun _ _ _ h => h) rfl (fun wz hwz => ?_) ?_
     rotate_left
     ·go_simp; try (with_reducible rfl)
     simp only [Zp, Zq, Zr, Zs]
     refine WpX.vD 9 (some 15) ?_ rfl rfl (by kernel_rfl) (fun _ _ _ h => h) rfl (fun wz hwz => ?_) ?_
     rotate_left
     ·go_simp; try (with_reducible rfl)
     simp only [Zp, Zq, Zr, Zs]
     refine WpX.oneD 10 (some 2) rfl rfl (by kernel_rfl) (fun x : Nat => Value.pointer (some ⟨x, 0, none⟩)) (fun xb => (AwT w2) (some ga) (some nb) (some gc) (some xb)) (fun xb => (AwK w2 (esK (zK 1 1)) (esK ([5] : KL 1)) (esK (addL (zK 1 1) ([5] : KL 1))) (totL (.slice none 0 0) 0 z16) (fun g => totL (.slice (some ⟨g, 0, none⟩) 1 1) 1 h9)) (some ga) (some nb) (some gc) (some xb) false) (Turns.val rfl (fun _ _ h => h) (fun _ => (AwK.weak _ _ _ _ _)) (fun _ => AwK.clo) (fun wz hS => ⟨wz.heap.size, wz.alloc (.cells #[.slice none 0 0, .int .i64 0, .int .u8 0, .int .u8 0, .int .u8 0, .int .u8 0, .int .u8 0, .int .u8 0, .int .u8 0, .int .u8 0, .int .u8 0, .int .u8 0, .int .u8 0, .int .u8 0, .int .u8 0, .int .u8 0, .int .u8 0, .int .u8 0] 76), by go_simp; try (with_reducible rfl), hS.mkD rfl⟩)) (fun xb => ?_)
     simp only [Zp, Zq, Zr, Zs]
     refine WpX.oneSkip 11 none rfl rfl (by kernel_rfl) ((AwT w2) (some ga) (some nb) (some gc) (some xb)) ((AwK w2 (esK (zK 1 1)) (esK ([5] : KL 1)) (esK (addL (zK 1 1) ([5] : KL 1))) (totL (.slice none 0 0) 0 z16) (fun g => totL (.slice (some ⟨g, 0, none⟩) 1 1) 1 h9)) (some ga) (some nb) (some gc) (some xb) true) (fun _ h => h) ((AwK.weak _ _ _ _ _)) (AwK.clo) rfl (fun wz hS => ?_) ?_
     ·(exact ⟨_, exec_store rfl (by kernel_rfl) (by kernel_rfl) (((hS.d xb rfl).2.1 rfl).storeT z16_length HHL.out rfl), hS.put (HNL.out _)⟩)
     simp only [Act.put]
     refine WpX.done (by kernel_rfl) (fun w3 hS => ⟨ga, nb, gc, xb, rfl, ?_⟩)
     ·exact hS
    case' rz2_31b =>
     simp only [Zp, Zq, Zr, Zs]
     refine WpX.oneD 6 (some 13) rfl rfl (by kernel_rfl) (fun g : Nat => Value.tuple #[.agg (totL (.slice (some ⟨g, 0, none⟩) 1 1) 1 h9).toArray, .int .i64 0]) (fun gc => (AwT w2) (some ga) (some nb) (some gc) (some xb)) (fun gc => (AwK w2 (esK (zK 1 1)) (esK ([5] : KL 1)) (esK (addL (zK 1 1) ([5] : KL 1))) (totL (.slice none 0 0) 0 z16) (fun g => totL (.slice (some ⟨g, 0, none⟩) 1 1) 1 h9)) (some ga) (some nb) (some gc) (some xb) false) (Turns.call rfl (fun _ _ h => h) (fun _ => (AwK.weak _ _ _ _ _)) (fun _ => AwK.clo) (fun wz hS => (HADD.out _ _ (zK 1 1) [5] wz (BlkE.slNn (n := 1) (hS.a ga rfl).2 rfl (by omega)) (BlkE.slNn (n := 1) (hS.b nb rfl).2 rfl (by omega)) rfl rfl).mono fun e w' ⟨g, he, h1, h2, hb'⟩ => ⟨g, he, hS.mkC h1 h2 hb'⟩) (fun wz hS => by go_simp; try (with_reducible rfl))) (fun gc => ?_)
     simp only [Zp, Zq, Zr, Zs]
     refine WpX.vD 7 (some 6) ?_ rfl rfl (by kernel_rfl) (fun _ _ _ h => h) rfl (fun wz hwz => ?_) ?_
     rotate_left
     ·go_simp; try (with_reducible rfl)
     simp only [Zp, Zq, Zr, Zs]
     refine WpX.vD 8 (some 14) ?_ rfl rfl (by kernel_rfl) (fun _ _ _ h => h) rfl (fun wz hwz => ?_) ?_
     rotate_left
     ·go_simp; try (with_reducible rfl)
     simp only [Zp, Zq, Zr, Zs]
     refine WpX.vD 9 (some 15) ?_ rfl rfl (by kernel_rfl) (fun _ _ _ h => h) rfl (fun wz hwz => ?_) ?_
     rotate_left
     ·go_simp; try (with_reducible rfl)
     simp only [Zp, Zq, Zr, Zs]
     refine WpX.oneSkip 11 none rfl rfl (by kernel_rfl) ((AwT w2) (some ga) (some nb) (some gc) (some xb)) ((AwK w2 (esK (zK 1 1)) (esK ([5] : KL 1)) (esK (addL (zK 1 1) ([5] : KL 1))) (totL (.slice none 0 0) 0 z16) (fun g => totL (.slice (some ⟨g, 0, none⟩) 1 1) 1 h9)) (some ga) (some nb) (some gc) (some xb) true) (fun _ h => h) ((AwK.weak _ _ _ _ _)) (AwK.clo) rfl (fun wz hS => ?_) ?_
     ·(exact ⟨_, exec_store rfl (by kernel_rfl) (by kernel_rfl) (((hS.d xb rfl).2.1 rfl).storeT z16_length HHL.out rfl), hS.put (HNL.out _)⟩)
     simp only [Act.put]
     refine WpX.done (by kernel_rfl) (fun w3 hS => ⟨ga, nb, gc, xb, rfl, ?_⟩)
     ·exact hS
   case' rz2_30b =>
    simp only [Zp, Zq, Zr, Zs]
    refine WpX.oneD 1 (some 8) rfl rfl (by kernel_rfl) (fun g : Nat => Value.agg (totL (.slice (some ⟨g, 0, none⟩) 1 1) 0 z16).toArray) (fun ga => (AwT w2) (some ga) (some nb) none (some xb)) (fun ga => (AwK w2 (esK (zK 1 1)) (esK ([5] : KL 1)) (esK (addL (zK 1 1) ([5] : KL 1))) (totL (.slice none 0 0) 0 z16) (fun g => totL (.slice (some ⟨g, 0, none⟩) 1 1) 1 h9)) (some ga) (some nb) none (some xb) false) (Turns.call rfl (fun _ _ h => h) (fun _ => (AwK.weak _ _ _ _ _)) (fun _ => AwK.clo) (fun wz hS => (HNEW.out wz).mono fun e w' ⟨g, he, h1, h2, hb'⟩ => ⟨g, he, hS.mkA h1 h2 hb'⟩) (fun wz hS => by go_simp; try (with_reducible rfl))) (fun ga => ?_)
    simp only [Zp, Zq, Zr, Zs]
    refine WpX.oneD 6 (some 13) rfl rfl (by kernel_rfl) (fun g : Nat => Value.tuple #[.agg (totL (.slice (some ⟨g, 0, none⟩) 1 1) 1 h9).toArray, .int .i64 0]) (fun gc => (AwT w2) (some ga) (some nb) (some gc) (some xb)) (fun gc => (AwK w2 (esK (zK 1 1)) (esK ([5] : KL 1)) (esK (addL (zK 1 1) ([5] : KL 1))) (totL (.slice none 0 0) 0 z16) (fun g => totL (.slice (some ⟨g, 0, none⟩) 1 1) 1 h9)) (some ga) (some nb) (some gc) (some xb) false) (Turns.call rfl (fun _ _ h => h) (fun _ => (AwK.weak _ _ _ _ _)) (fun _ => AwK.clo) (fun wz hS => (HADD.out _ _ (zK 1 1) [5] wz (BlkE.slNn (n := 1) (hS.a ga rfl).2 rfl (by omega)) (BlkE.slNn (n := 1) (hS.b nb rfl).2 rfl (by omega)) rfl rfl).mono fun e w' ⟨g, he, h1, h2, hb'⟩ => ⟨g, he, hS.mkC h1 h2 hb'⟩) (fun wz hS => by go_simp; try (with_reducible rfl))) (fun gc => ?_)
    simp only [Zp, Zq, Zr, Zs]
    refine WpX.vD 7 (some 6) ?_ rfl rfl (by kernel_rfl) (fun _ _ _ h => h) rfl (fun wz hwz => ?_) ?_
    rotate_left
    ·go_simp; try (with_reducible rfl)
    simp only [Zp, Zq, Zr, Zs]
    refine WpX.vD 8 (some 14) ?_ rfl rfl (by kernel_rfl) (fun _ _ _ h => h) rfl (fun wz hwz => ?_) ?_
    rotate_left
    ·go_simp; try (with_reducible rfl)
    simp only [Zp, Zq, Zr, Zs]
    refine WpX.vD 9 (some 15) ?_ rfl rfl (by kernel_rfl) (fun _ _ _ h => h) rfl (fun wz hwz => ?_) ?_
    rotate_left
    ·go_simp; try (with_reducible rfl)
    simp only [Zp, Zq, Zr, Zs]
    refine WpX.oneSkip 11 none rfl rfl (by kernel_rfl) ((AwT w2) (some ga) (some nb) (some gc) (some xb)) ((AwK w2 (esK (zK 1 1)) (esK ([5] : KL 1)) (esK (addL (zK 1 1) ([5] : KL 1))) (totL (.slice none 0 0) 0 z16) (fun g => totL (.slice (some ⟨g, 0, none⟩) 1 1) 1 h9)) (some ga) (some nb) (some gc) (some xb) true) (fun _ h => h) ((AwK.weak _ _ _ _ _)) (AwK.clo) rfl (fun wz hS => ?_) ?_
    ·(exact ⟨_, exec_store rfl (by kernel_rfl) (by kernel_rfl) (((hS.d xb rfl).2.1 rfl).storeT z16_length HHL.out rfl), hS.put (HNL.out _)⟩)
    simp only [Act.put]
    refine WpX.done (by kernel_rfl) (fun w3 hS => ⟨ga, nb, gc, xb, rfl, ?_⟩)
    ·exact hS
  case' rz2_27c =>
   simp only [Zp, Zq, Zr, Zs]
   refine WpX.twoD 1 5 (some 8) (some 12) rfl rfl rfl rfl (by kernel_rfl) (fun g : Nat => Value.agg (totL (.slice (some ⟨g, 0, none⟩) 1 1) 0 z16).toArray) (fun ga => (AwT w2) (some ga) none none (some xb)) (fun ga => (AwK w2 (esK (zK 1 1)) (esK ([5] : KL 1)) (esK (addL (zK 1 1) ([5] : KL 1))) (totL (.slice none 0 0) 0 z16) (fun g => totL (.slice (some ⟨g, 0, none⟩) 1 1) 1 h9)) (some ga) none none (some xb) false) (Turns.call rfl (fun _ _ h => h) (fun _ => (AwK.weak _ _ _ _ _)) (fun _ => AwK.clo) (fun wz hS => (HNEW.out wz).mono fun e w' ⟨g, he, h1, h2, hb'⟩ => ⟨g, he, hS.mkA h1 h2 hb'⟩) (fun wz hS => by go_simp; try (with_reducible rfl))) (fun b : Nat => Value.slice (some ⟨b, 0, none⟩) 1 1) (fun nb => (AwT w2) none (some nb) none (some xb)) (fun nb => (AwK w2 (esK (zK 1 1)) (esK ([5] : KL 1)) (esK (addL (zK 1 1) ([5] : KL 1))) (totL (.slice none 0 0) 0 z16) (fun g => totL (.slice (some ⟨g, 0, none⟩) 1 1) 1 h9)) none (some nb) none (some xb) false) (Turns.val rfl (fun _ _ h => h) (fun _ => (AwK.weak _ _ _ _ _)) (fun _ => AwK.clo) (fun wz hS => ⟨wz.heap.size, wz.alloc (.cells #[.int .u64 5, .int .u64 0] 99), by go_simp; try (with_reducible rfl), hS.mkB (by rw [awake15_five]; rfl)⟩)) (fun ga => ?rz2_32a) (fun nb => ?rz2_32b)
   case' rz2_32a =>
    simp only [Zp, Zq, Zr, Zs]
    refine WpX.oneD 5 (some 12) rfl rfl (by kernel_rfl) (fun b : Nat => Value.slice (some ⟨b, 0, none⟩) 1 1) (fun nb => (AwT w2) (some ga) (some nb) none (some xb)) (fun nb => (AwK w2 (esK (zK 1 1)) (esK ([5] : KL 1)) (esK (addL (zK 1 1) ([5] : KL 1))) (totL (.slice none 0 0) 0 z16) (fun g => totL (.slice (some ⟨g, 0, none⟩) 1 1) 1 h9)) (some ga) (some nb) none (some xb) false) (Turns.val rfl (fun _ _ h => h) (fun _ => (AwK.weak _ _ _ _ _)) (fun _ => AwK.clo) (fun wz hS => ⟨wz.heap.size, wz.alloc (.cells #[.int .u64 5, .int .u64 0] 99), by go_simp; try (with_reducible rfl), hS.mkB (by rw [awake15_five]; rfl)⟩)) (fun nb => ?_)
    simp only [Zp, Zq, Zr, Zs]
    refine WpX.oneD 6 (some 13) rfl rfl (by kernel_rfl) (fun g : Nat => Value.tuple #[.agg (totL (.slice (some ⟨g, 0, none⟩) 1 1) 1 h9).toArray, .int .i64 0]) (fun gc => (AwT w2) (some ga) (some nb) (some gc) (some xb)) (fun gc => (AwK w2 (esK (zK 1 1)) (esK ([5] : KL 1)) (esK (addL (zK 1 1) ([5] : KL 1))) (totL (.slice none 0 0) 0 z16) (fun g => totL (.slice (some ⟨g, 0, none⟩) 1 1) 1 h9)) (some ga) (some nb) (some gc) (some xb) false) (Turns.call rfl (fun _ _ h => h) (fun _ => (AwK.weak _ _ _ _ _)) (fun _ => AwK.clo) (fun wz hS => (HADD.out _ _ (zK 1 1) [5] wz (BlkE.slNn (n := 1) (hS.a ga rfl).2 rfl (by omega)) (BlkE.slNn (n := 1) (hS.b nb rfl).2 rfl (by omega)) rfl rfl).mono fun e w' ⟨g, he, h1, h2, hb'⟩ => ⟨g, he, hS.mkC h1 h2 hb'⟩) (fun wz hS => by go_simp; try (with_reducible rfl))) (fun gc => ?_)
    simp only [Zp, Zq, Zr, Zs]
    refine WpX.vD 7 (some 6) ?_ rfl rfl (by kernel_rfl) (fun _ _ _ h => h) rfl (fun wz hwz => ?_) ?_
    rotate_left
    ·go_simp; try (with_reducible rfl)
    simp only [Zp, Zq, Zr, Zs]
    refine WpX.vD 8 (some 14) ?_ rfl rfl (by kernel_rfl) (fun _ _ _ h => h) rfl (fun wz hwz => ?_) ?_
    rotate_left
    ·go_simp; try (with_reducible rfl)
    simp only [Zp, Zq, Zr, Zs]
    refine WpX.vD 9 (some 15) ?_ rfl rfl (by kernel_rfl) (fun _ _ _ h => h) rfl (fun wz hwz => ?_) ?_
    rotate_left
    ·go_simp; try (with_reducible rfl)
    simp only [Zp, Zq, Zr, Zs]
    refine WpX.oneSkip 11 none rfl rfl (by kernel_rfl) ((AwT w2) (some ga) (some nb) (some gc) (some xb)) ((AwK w2 (esK (zK 1 1)) (esK ([5] : KL 1)) (esK (addL (zK 1 1) ([5] : KL 1))) (totL (.slice none 0 0) 0 z16) (fun g => totL (.slice (some ⟨g, 0, none⟩) 1 1) 1 h9)) (some ga) (some nb) (some gc) (some xb) true) (fun _ h => h) ((AwK.weak _ _ _ _ _)) (AwK.clo) rfl (fun wz hS => ?_) ?_
    ·(exact ⟨_, exec_store rfl (by kernel_rfl) (by kernel_rfl) (((hS.d xb rfl).2.1 rfl).storeT z16_length HHL.out rfl), hS.put (HNL.out _)⟩)
    simp only [Act.put]
    refine WpX.done (by kernel_rfl) (fun w3 hS => ⟨ga, nb, gc, xb, rfl, ?_⟩)
    ·exact hS
   case' rz2_32b =>
    simp only [Zp, Zq, Zr, Zs]
    refine WpX.oneD 1 (some 8) rfl rfl (by kernel_rfl) (fun g : Nat => Value.agg (totL (.slice (some ⟨g, 0, none⟩) 1 1) 0 z16).toArray) (fun ga => (AwT w2) (some ga) (some nb) none (some xb)) (fun ga => (AwK w2 (esK (zK 1 1)) (esK ([5] : KL 1)) (esK (addL (zK 1 1) ([5] : KL 1))) (totL (.slice none 0 0) 0 z16) (fun g => totL (.slice (some ⟨g, 0, none⟩) 1 1) 1 h9)) (some ga) (some nb) none (some xb) false) (Turns.call rfl (fun _ _ h => h) (fun _ => (AwK.weak _ _ _ _ _)) (fun _ => AwK.clo) (fun wz hS => (HNEW.out wz).mono fun e w' ⟨g, he, h1, h2, hb'⟩ => ⟨g, he, hS.mkA h1 h2 hb'⟩) (fun wz hS => by go_simp; try (with_reducible rfl))) (fun ga => ?_)
    simp only [Zp, Zq, Zr, Zs]
    refine WpX.oneD 6 (some 13) rfl rfl (by kernel_rfl) (fun g : Nat => Value.tuple #[.agg (totL (.slice (some ⟨g, 0, none⟩) 1 1) 1 h9).toArray, .int .i64 0]) (fun gc => (AwT w2) (some ga) (some nb) (some gc) (some xb)) (fun gc => (AwK w2 (esK (zK 1 1)) (esK ([5] : KL 1)) (esK (addL (zK 1 1) ([5] : KL 1))) (totL (.slice none 0 0) 0 z16) (fun g => totL (.slice (some ⟨g, 0, none⟩) 1 1) 1 h9)) (some ga) (some nb) (some gc) (some xb) false) (Turns.call rfl (fun _ _ h => h) (fun _ => (AwK.weak _ _ _ _ _)) (fun _ => AwK.clo) (fun wz hS => (HADD.out _ _ (zK 1 1) [5] wz (BlkE.slNn (n := 1) (hS.a ga rfl).2 rfl (by omega)) (BlkE.slNn (n := 1) (hS.b nb rfl).2 rfl (by omega)) rfl rfl).mono fun e w' ⟨g, he, h1, h2, hb'⟩ => ⟨g, he, hS.mkC h1 h2 hb'⟩) (fun wz hS => by go_simp; try (with_reducible rfl))) (fun gc => ?_)
    simp only [Zp, Zq, Zr, Zs]
    refine WpX.vD 7 (some 6) ?_ rfl rfl (by kernel_rfl) (fun _ _ _ h => h) rfl (fun wz hwz => ?_) ?_
    rotate_left
    ·go_simp; try (with_reducible rfl)
    simp only [Zp, Zq, Zr, Zs]
    refine WpX.vD 8 (some 14) ?_ rfl rfl (by kernel_rfl) (fun _ _ _ h => h) rfl (fun wz hwz => ?_) ?_
    rotate_left
    ·go_simp; try (with_reducible rfl)
    simp only [Zp, Zq, Zr, Zs]
    refine WpX.vD 9 (some 15) ?_ rfl rfl (by kernel_rfl) (fun _ _ _ h => h) rfl (fun wz hwz => ?_) ?_
    rotate_left
    ·go_simp; try (with_reducible rfl)
    simp only [Zp, Zq, Zr, Zs]
    refine WpX.oneSkip 11 none rfl rfl (by kernel_rfl) ((AwT w2) (some ga) (some nb) (some gc) (some xb)) ((AwK w2 (esK (zK 1 1)) (esK ([5] : KL 1)) (esK (addL (zK 1 1) ([5] : KL 1))) (totL (.slice none 0 0) 0 z16) (fun g => totL (.slice (some ⟨g, 0, none⟩) 1 1) 1 h9)) (some ga) (some nb) (some gc) (some xb) true) (fun _ h => h) ((AwK.weak _ _ _ _ _)) (AwK.clo) rfl (fun wz hS => ?_) ?_
    ·(exact ⟨_, exec_store rfl (by kernel_rfl) (by kernel_rfl) (((hS.d xb rfl).2.1 rfl).storeT z16_length HHL.out rfl), hS.put (HNL.out _)⟩)
    simp only [Act.put]
    refine WpX.done (by kernel_rfl) (fun w3 hS => ⟨ga, nb, gc, xb, rfl, ?_⟩)
    ·exact hS
 intro ga nb gc xb w3 hS
 (try simp only [List.drop_succ_cons]); (try simp only [List.drop_zero]); (try simp only [Nat.reduceSub]); (try simp only [List.take_succ_cons]); (try simp only [List.take_zero])
 obtain ⟨hx1, _, hx2⟩ := hS.d xb rfl
 have hX := hx2 rfl gc rfl
 have hBc := (hS.c gc rfl).2
 rw [awake15_sum] at hBc
 obtain ⟨c0, c1⟩ := hBc.row 0 (5, 0) rfl
 dsimp only at c0 c1
 simp only [Nat.zero_mul, Nat.zero_add] at c0 c1
 have hgc := hBc.lt
 replace hb00 := bl_call hb00 (Nat.le_refl _) hS.t
 obtain ⟨x0, x1, x2, x3, x4⟩ := hX.tot
 have HEQ : Hid (∀ wz, (Op.equalIn 10000 74 (.agg (cells8 h9).toArray) (.agg (cells8 h9).toArray)).run Try.prog wz = .ok true wz) := fun wz => by
  rw [run_equalIn_16 9998 Try.underlying74 HHL.out HHL.out]
  simp
 have hel := eql_elem
 have HXX := Lib.hid hX
 clear hS hBc hx1 hx2 hX hT HTT
 go_upto_region 3 with fail
 refine region_G (n := 28) (m := 29) (f := 28) (by kernel_rfl) (by kernel_rfl) rfl ?_
 refine WpG.vD 0 (some 16) ?_ rfl rfl (by kernel_rfl) (fun _ _ _ h => h) rfl (fun wz hwz => ?_) ?_
 rotate_left
 ·go_simp; try (with_reducible rfl)
 simp only [Zp, Zq, Zr, Zs]
 refine WpG.vD 1 (some 17) ?_ rfl rfl (by kernel_rfl) (fun _ _ _ h => h) rfl (fun wz hwz => ?_) ?_
 rotate_left
 ·go_simp; try (with_reducible rfl)
 simp only [Zp, Zq, Zr, Zs]
 refine WpG.vD 2 (some 18) ?_ rfl rfl (by kernel_rfl) (fun _ _ _ h => h) rfl (fun wz hwz => ?_) ?_
 rotate_left
 ·go_simp; try (with_reducible rfl)
 simp only [Zp, Zq, Zr, Zs]
 refine WpG.vD 3 (some 19) ?_ rfl rfl (by kernel_rfl) (fun _ _ _ h => h) rfl (fun wz hwz => ?_) ?_
 rotate_left
 ·go_simp; try (with_reducible rfl)
 simp only [Zp, Zq, Zr, Zs]
 refine WpG.vD 4 (some 20) ?_ rfl rfl (by kernel_rfl) (fun _ _ _ h => h) rfl (fun wz hwz => ?_) ?_
 rotate_left
 ·(obtain ⟨hcz, hfz⟩ := bcell (hwz); go_simp; try (with_reducible rfl))
 simp only [Zp, Zq, Zr, Zs]
 refine WpG.vD 5 (some 21) ?_ rfl rfl (by kernel_rfl) (fun _ _ _ h => h) rfl (fun wz hwz => ?_) ?_
 rotate_left
 ·go_simp; try (with_reducible rfl)
 simp only [Zp, Zq, Zr, Zs]
 refine WpG.vD 6 (some 22) ?_ rfl rfl (by kernel_rfl) (fun _ _ _ h => h) rfl (fun wz hwz => ?_) ?_
 rotate_left
 ·go_simp; try (with_reducible rfl)
 simp only [Zp, Zq, Zr, Zs]
 refine WpG.vD 7 (some 23) ?_ rfl rfl (by kernel_rfl) (fun _ _ _ h => h) rfl (fun wz hwz => ?_) ?_
 rotate_left
 ·go_simp; try (with_reducible rfl)
 simp only [Zp, Zq, Zr, Zs]
 refine WpG.vD 8 (some 24) ?_ rfl rfl (by kernel_rfl) (fun _ _ _ h => h) rfl (fun wz hwz => ?_) ?_
 rotate_left
 ·go_simp; try (with_reducible rfl)
 simp only [Zp, Zq, Zr, Zs]
 refine WpG.vD 9 (some 25) ?_ rfl rfl (by kernel_rfl) (fun _ _ _ h => h) rfl (fun wz hwz => ?_) ?_
 rotate_left
 ·(obtain ⟨hcz, hfz⟩ := bcell (hwz); go_simp; try (with_reducible rfl))
 simp only [Zp, Zq, Zr, Zs]
 refine WpG.vD 10 (some 26) ?_ rfl rfl (by kernel_rfl) (fun _ _ _ h => h) rfl (fun wz hwz => ?_) ?_
 rotate_left
 ·go_simp; try (with_reducible rfl)
 simp only [Zp, Zq, Zr, Zs]
 refine WpG.vD 11 (some 27) ?_ rfl rfl (by kernel_rfl) (fun _ _ _ h => h) rfl (fun wz hwz => ?_) ?_
 rotate_left
 ·go_simp; try (with_reducible rfl)
 simp only [Zp, Zq, Zr, Zs]
 refine WpG.vD 12 (some 28) ?_ rfl rfl (by kernel_rfl) (fun _ _ _ h => h) rfl (fun wz hwz => ?_) ?_
 rotate_left
 ·go_simp; try (with_reducible rfl)
 simp only [Zp, Zq, Zr, Zs]
 refine WpG.vD 13 (some 29) ?_ rfl rfl (by kernel_rfl) (fun _ _ _ h => h) rfl (fun wz hwz => ?_) ?_
 rotate_left
 ·go_simp; try (with_reducible rfl)
 simp only [Zp, Zq, Zr, Zs]
 refine WpG.vD 14 (some 30) ?_ rfl rfl (by kernel_rfl) (fun _ _ _ h => h) rfl (fun wz hwz => ?_) ?_
 rotate_left
 ·go_simp; try (with_reducible rfl)
 simp only [Zp, Zq, Zr, Zs]
 refine WpG.vD 15 (some 31) ?_ rfl rfl (by kernel_rfl) (fun _ _ _ h => h) rfl (fun wz hwz => ?_) ?_
 rotate_left
 ·(obtain ⟨hcz, hfz⟩ := bcell (hwz); go_simp; try (with_reducible rfl))
 simp only [Zp, Zq, Zr, Zs]
 refine WpG.vD 16 (some 32) ?_ rfl rfl (by kernel_rfl) (fun _ _ _ h => h) rfl (fun wz hwz => ?_) ?_
 rotate_left
 ·go_simp; try (with_reducible rfl)
 simp only [Zp, Zq, Zr, Zs]
 refine WpG.vD 17 (some 33) ?_ rfl rfl (by kernel_rfl) (fun _ _ _ h => h) rfl (fun wz hwz => ?_) ?_
 rotate_left
 ·(obtain ⟨hcz, hfz⟩ := bcell (hwz); go_simp; try (with_reducible rfl))
 simp only [Zp, Zq, Zr, Zs]
 refine WpG.vD 18 (some 34) ?_ rfl rfl (by kernel_rfl) (fun _ _ _ h => h) rfl (fun wz hwz => ?_) ?_
 rotate_left
 ·go_simp; try (with_reducible rfl)
 simp only [Zp, Zq, Zr, Zs]
 refine WpG.vD 19 (some 35) ?_ rfl rfl (by kernel_rfl) (fun _ _ _ h => h) rfl (fun wz hwz => ?_) ?_
 rotate_left
 ·go_simp; try (with_reducible rfl)
 simp only [Zp, Zq, Zr, Zs]
 refine WpG.vD 20 (some 36) ?_ rfl rfl (by kernel_rfl) (fun _ _ _ h => h) rfl (fun wz hwz => ?_) ?_
 rotate_left
 ·go_simp; try (with_reducible rfl)
 simp only [Zp, Zq, Zr, Zs]
 refine WpG.vD 21 (some 37) ?_ rfl rfl (by kernel_rfl) (fun _ _ _ h => h) rfl (fun wz hwz => ?_) ?_
 rotate_left
 ·go_simp; try (with_reducible rfl)
 simp only [Zp, Zq, Zr, Zs]
 refine WpG.vD 22 (some 38) ?_ rfl rfl (by kernel_rfl) (fun _ _ _ h => h) rfl (fun wz hwz => ?_) ?_
 rotate_left
 ·go_simp; try (with_reducible rfl)
 simp only [Zp, Zq, Zr, Zs]
 refine WpG.vD 23 (some 39) ?_ rfl rfl (by kernel_rfl) (fun _ _ _ h => h) rfl (fun wz hwz => ?_) ?_
 rotate_left
 ·(refine Eq.trans (exec_load rfl (by kernel_rfl) ((HXX.out.call (hwz)).loadTC HHL.out)) ?_; with_reducible rfl)
 simp only [Zp, Zq, Zr, Zs]
 refine WpG.vD 24 (some 40) ?_ rfl rfl (by kernel_rfl) (fun _ _ _ h => h) rfl (fun wz hwz => ?_) ?_
 rotate_left
 ·(refine Eq.trans (exec_build rfl (by kernel_rfl) (build_id1 wz)) ?_; with_reducible rfl)
 simp only [Zp, Zq, Zr, Zs]
 refine WpG.takeD 25 (some 41) rfl rfl (by kernel_rfl) (fun _ _ _ h => h) (.call rfl (fun wz hwz => HOF.out wz) (fun wz hwz => ?_)) ?_
 ·go_simp; try (with_reducible rfl)
 simp only [Zp, Zq, Zr, Zs]
 refine WpG.vD 26 (some 42) ?_ rfl rfl (by kernel_rfl) (fun _ _ _ h => h) rfl (fun wz hwz => ?_) ?_
 rotate_left
 ·(obtain ⟨hcz, hfz⟩ := bcell (hwz); have hz := HEQ.out wz; go_simp; try (with_reducible rfl))
 simp only [Zp, Zq, Zr, Zs]
 refine WpG.vD 27 (some 43) ?_ rfl rfl (by kernel_rfl) (fun _ _ _ h => h) rfl (fun wz hwz => ?_) ?_
 rotate_left
 ·go_simp; try (with_reducible rfl)
 simp only [Zp, Zq, Zr, Zs]
 refine WpG.done (by kernel_rfl) (fun w4 hS => ?_)
 (try simp only [List.drop_succ_cons]); (try simp only [List.drop_zero]); (try simp only [Nat.reduceSub]); (try simp only [List.take_succ_cons]); (try simp only [List.take_zero])
 replace hb00 := bl_call hb00 (Nat.le_refl _) hS
 clear hS x0 x1 x2 x3 x4 c0 c1
 go_upto_region 99 with fail
 go_ret
 exact ⟨rfl, hb00⟩

end Go.Proofs.Ytbakkmfjamcbfaa

namespace Go.Proofs.Ytbakkmfjamcbfaa
open Go.RowKit Fm
set_option linter.unusedVariables false
set_option maxRecDepth 100000

theorem z16_b8 : B8 z16 := fun x hx => by
 have h := List.eq_of_mem_replicate hx
 omega
theorem chkF_b8 {K : List Int} (hK : B8 K) : ∀ (ids : List (List Int)), B8 (chkF K ids)
 | [] => hK
 | id :: ids => chkF_b8 (K := xorL K (hashF 7 id)) xorL_B8 ids
theorem chkF_from : ∀ (ids : List (List Int)) {K : List Int}, K.length = 16 → B8 K → chkF K ids = xorL K (chkF z16 ids)
 | [], K, h1, h2 => by
  show K = xorL K z16
  rw [xorL_comm]
  exact (xorL_zero 16 K h1 h2).symm
 | id :: ids, K, h1, h2 => by
  have hh := hashF_ok 7 id
  show chkF (xorL K (hashF 7 id)) ids = xorL K (chkF (xorL z16 (hashF 7 id)) ids)
  have hz : xorL z16 (hashF 7 id) = hashF 7 id := xorL_zero 16 _ hh.1 hh.2
  rw [chkF_from ids (xorL_length h1 hh.1) xorL_B8, hz, chkF_from ids hh.1 hh.2, xorL_assoc]
theorem chkF_split (ids : List (List Int)) (k : Nat) : xorL (chkF z16 (ids.take k)) (chkF z16 (ids.drop k)) = chkF z16 ids := by
 rw [← chkF_from _ (chkF_length z16_length _) (chkF_b8 z16_b8 _)]
 show List.foldl _ (List.foldl _ _ _) _ = List.foldl _ _ _
 rw [← List.foldl_append, List.take_append_drop]
section
variable {f : Nat}
theorem addL_assoc : ∀ (a b c : KL f), addL (addL a b) c = addL a (addL b c)
 | [], _, _ => by simp [addL]
 | _ :: _, [], _ => by simp [addL]
 | _ :: _, _ :: _, [] => by simp [addL]
 | x :: a, y :: b, z :: c => by
  have ih := addL_assoc a b c
  unfold addL at ih ⊢
  simp only [List.zipWith_cons_cons, ih]
  congr 1
  grind
theorem addL_comm (a b : KL f) : addL a b = addL b a := by
 unfold addL
 exact List.zipWith_comm_of_comm (fun x y => by grind)
theorem addL_zero : ∀ (n : Nat) (a : KL f), a.length = n → addL (zK f n) a = a
 | 0, [], _ => rfl
 | n + 1, x :: a, h => by
  have ih := addL_zero n a (by simpa using h)
  unfold addL zK at ih ⊢
  rw [List.replicate_succ, List.zipWith_cons_cons, ih]
  congr 1
  grind
theorem sumF_from {n : Nat} : ∀ (ps : List (KL f)) {S : KL f}, S.length = n → (∀ p, p ∈ ps → p.length = n) → sumF S ps = addL S (sumF (zK f n) ps)
 | [], S, h1, _ => by
  show S = addL S (zK f n)
  rw [addL_comm]
  exact (addL_zero n S h1).symm
 | p :: ps, S, h1, h2 => by
  have hp := h2 p (List.mem_cons_self ..)
  have hr : ∀ q, q ∈ ps → q.length = n := fun q hq => h2 q (List.mem_cons_of_mem _ hq)
  show sumF (addL S p) ps = addL S (sumF (addL (zK f n) p) ps)
  rw [sumF_from ps (addL_len h1 hp) hr, addL_zero n p hp, sumF_from ps hp hr, addL_assoc]
theorem sumF_split {n : Nat} (ps : List (KL f)) (k : Nat) (h : ∀ p, p ∈ ps → p.length = n) : addL (sumF (zK f n) (ps.take k)) (sumF (zK f n) (ps.drop k)) = sumF (zK f n) ps := by
 rw [← sumF_from _ (sumF_len (zK_length f n) _ fun q hq => h q (List.mem_of_mem_take hq)) fun q hq => h q (List.mem_of_mem_drop hq)]
 show List.foldl _ (List.foldl _ _ _) _ = List.foldl _ _ _
 rw [← List.foldl_append, List.take_append_drop]
theorem PsK.take {w : World} {vs : List Value} {ps : List (KL f)} (h : PsK w vs ps) (k : Nat) : PsK w (vs.take k) (ps.take k) := by
 refine ⟨by rw [List.length_take, List.length_take, h.len], fun i v p h1 h2 => ?_⟩
 have hi : i < k := by
  have := (List.getElem?_eq_some_iff.1 h1).1
  rw [List.length_take] at this
  omega
 rw [List.getElem?_take_of_lt hi] at h1 h2
 exact h.at' i v p h1 h2
theorem PsK.drop {w : World} {vs : List Value} {ps : List (KL f)} (h : PsK w vs ps) (k : Nat) : PsK w (vs.drop k) (ps.drop k) := by
 refine ⟨by rw [List.length_drop, List.length_drop, h.len], fun i v p h1 h2 => ?_⟩
 rw [List.getElem?_drop] at h1 h2
 exact h.at' _ v p h1 h2
end

theorem SlR.take {w : World} {B q N c k : Nat} {A : Option Addr} {rows : List (List Value)} (h : SlR w B (.slice A N c) q rows) (hk : k ≤ N) : SlR w B (.slice A k c) q (rows.take k) := by
 obtain ⟨A', c', hv, h1, h2, h3⟩ := h
 injection hv with e1 e2 e3
 subst e1 e2 e3
 have hl : (rows.take k).length = k := by rw [List.length_take]; omega
 refine ⟨A, c, by rw [hl], by omega, h2, fun hp => ?_⟩
 obtain ⟨b, o, k1, k2, k3⟩ := h3 (by omega)
 refine ⟨b, o, k1, k2, fun i r hi j u hj => k3 i r ?_ j u hj⟩
 have hik : i < k := by
  have := (List.getElem?_eq_some_iff.1 hi).1
  omega
 rwa [List.getElem?_take_of_lt hik] at hi
theorem SlR.drop {w : World} {B q N c k : Nat} {A : Option Addr} {rows : List (List Value)} (h : SlR w B (.slice A N c) q rows) (hk : k ≤ N) : SlR w B (.slice (if c = k then A else A.map (·.add (k * q))) (N - k) (c - k)) q (rows.drop k) := by
 obtain ⟨A', c', hv, h1, h2, h3⟩ := h
 injection hv with e1 e2 e3
 subst e1 e2 e3
 have hl : (rows.drop k).length = rows.length - k := List.length_drop ..
 refine ⟨_, c - k, by rw [hl], by omega, by omega, fun hp => ?_⟩
 obtain ⟨b, o, k1, k2, k3⟩ := h3 (by omega)
 refine ⟨b, o + k * q, ?_, k2, fun i r hi j u hj => ?_⟩
 ·rw [if_neg (by omega), k1]
  show some ((⟨b, o, none⟩ : Addr).add (k * q)) = _
  rw [Addr.add_mid]
 ·rw [List.getElem?_drop] at hi
  have h4 := k3 (k + i) r hi j u hj
  rw [Nat.add_mul] at h4
  rw [show o + k * q + i * q + j = o + (k * q + i * q) + j by omega]
  exact h4
theorem exec_slice {w : World} {ρ : Operand → Value} {o : Oper} {T : TypeId} {x : Operand} {lo hi mx : Option Operand} {p v : Value} {lo' hi' mx' : Option Value} (ho : o.op = .slice T x lo hi mx) (hx : ρ x = p) (hl : lo.map ρ = lo') (hh : hi.map ρ = hi') (hm : mx.map ρ = mx') (h : (Instr.sliceAt T p lo' hi' mx').run Try.prog w = .ok v w) : (execOp ρ o).run Try.prog w = .ok (.value v) w := by
 unfold execOp
 simp only [ho, hx, hl, hh, hm, Sem.run_bind, h, Result.andThen_ok, Sem.run_pure]
theorem sliceAt_h {T e : TypeId} {i : TypeInfo} (hu : Try.prog.underlying T = some (.slice e)) (he : Try.prog.elem T = e) (hi : Try.prog.info? e = some i) (A : Option Addr) (N c k : Nat) (hk : k ≤ c) (w : World) : (Instr.sliceAt T (.slice A N c) none (some (.int .i64 (k : Int))) none).run Try.prog w = .ok (.slice A k c) w := by
 have hu2 : Try.prog.underlying T = some (.slice (Try.prog.elem T)) := by rw [he]; exact hu
 rw [run_sliceAt_slice w T _ _ _ _ hu2, run_slice_h w T A N c hu2 .i64 (k : Int) (by omega) (by omega), he]
 simp only [run_sizeOf w hi, Result.andThen_ok, sliced]
 cases A with
 | none => simp
 | some a =>
  have h0 : a.add 0 = a := rfl
  simp [h0]
theorem sliceAt_l {T e : TypeId} {i : TypeInfo} (hu : Try.prog.underlying T = some (.slice e)) (he : Try.prog.elem T = e) (hi : Try.prog.info? e = some i) (q : Nat) (hq : Try.prog.cellsOf e = q) (A : Option Addr) (N c k : Nat) (hk : k ≤ N) (w : World) : (Instr.sliceAt T (.slice A N c) (some (.int .i64 (k : Int))) none none).run Try.prog w = .ok (.slice (if c = k then A else A.map (·.add (k * q))) (N - k) (c - k)) w := by
 have hu2 : Try.prog.underlying T = some (.slice (Try.prog.elem T)) := by rw [he]; exact hu
 rw [run_sliceAt_slice w T _ _ _ _ hu2, run_slice_l w T A N c hu2 .i64 (k : Int) (by omega) (by omega), he]
 simp only [run_sizeOf w hi, Result.andThen_ok, sliced, hq, Int.toNat_natCast]

end Go.Proofs.Ytbakkmfjamcbfaa

namespace Go.Proofs.Ytbakkmfjamcbfaa
open Go.RowKit Fm
set_option linter.unusedVariables false
set_option maxRecDepth 100000

def kpw {f : Nat} (x : Fin (Pm f)) : Nat → Fin (Pm f)
 | 0 => 1
 | n + 1 => kpw x n * x
/-! ### inverses -/
end Go.Proofs.Ytbakkmfjamcbfaa

namespace Go.Proofs.Ytbakkmfjamcbfaa
open Go.RowKit Fm
set_option linter.unusedVariables false
set_option maxRecDepth 100000

section
variable {f : Nat}

def RwK (w : World) (g : Nat) (l : KL f) : Prop := Vs w g (cellsE (esK l))
theorem cellsE_len {l : KL f} : (cellsE (esK l)).length = l.length * 2 := by rw [length_cellsE, esK_length]
theorem RwK.call {w w' : World} {g : Nat} {l : KL f} (h : RwK w g l) (hb : Below w.heap.size w w') : RwK w' g l := Vs.call h hb
theorem RwK.alloc {w : World} {g : Nat} {l : KL f} (h : RwK w g l) (o : Obj) : RwK (w.alloc o) g l := Vs.alloc h o
theorem RwK.far {w : World} {g : Nat} {l : KL f} (h : RwK w g l) {p : Addr} (hp : p.block ≠ g) (x : Value) : RwK (w.setCell p x) g l := Vs.far h hp x
theorem RwK.at {w : World} {g : Nat} {l : KL f} (h : RwK w g l) {i : Nat} {x : Fin (Pm f)} (hx : l[i]? = some x) :
  w.cell? ⟨g, i * 2, none⟩ = some (.int .u64 (lo x)) ∧ w.cell? ⟨g, i * 2 + 1, none⟩ = some (.int .u64 (hi x)) := by
 obtain ⟨h1, h2⟩ := cellsE_at (esK l) i _ (esK_at hx)
 exact ⟨h.cell _ _ h1, h.cell _ _ h2⟩
theorem RwK.frz {w : World} {g : Nat} {l : KL f} (h : RwK w g l) {i : Nat} (hi : i < l.length) : w.frozen? ⟨g, i * 2, none⟩ = false ∧ w.frozen? ⟨g, i * 2 + 1, none⟩ = false :=
 ⟨Vs.frz h _ (by rw [cellsE_len]; omega), Vs.frz h _ (by rw [cellsE_len]; omega)⟩
theorem esK_set (l : KL f) (i : Nat) (x : Fin (Pm f)) : esK (l.set i x) = (esK l).set i (lo x, hi x) := by
 unfold esK
 rw [List.map_set]
 rfl
theorem RwK.set {w : World} {g : Nat} {l : KL f} (h : RwK w g l) (i : Nat) (hi : i < l.length) (x : Fin (Pm f)) :
  RwK ((w.setCell ⟨g, i * 2, none⟩ (.int .u64 (lo x))).setCell ⟨g, i * 2 + 1, none⟩ (.int .u64 (Go.Proofs.Ytbakkmfjamcbfaa.hi x))) g (l.set i x) := by
 have h2 := Vs.put (Vs.put h (i * 2) (by rw [cellsE_len]; omega) (.int .u64 (lo x))) (i * 2 + 1) (by rw [List.length_set, cellsE_len]; omega) (.int .u64 (Go.Proofs.Ytbakkmfjamcbfaa.hi x))
 unfold RwK
 rw [esK_set, ← cellsE_set]
 exact h2
theorem RwK.row {w : World} {g : Nat} {l : KL f} (h : RwK w g l) : RowE w g 0 (esK l) := fun i e hi => by
 obtain ⟨h1, h2⟩ := cellsE_at (esK l) i e hi
 rw [Nat.zero_add]
 exact ⟨h.cell _ _ h1, h.cell _ _ h2⟩
theorem RwK.sl {w : World} {g n c : Nat} {l : KL f} (h : RwK w g l) (hl : l.length = n) (hc : n ≤ c) (hm : c ≤ 9223372036854775807) : SlK w w.heap.size (.slice (some ⟨g, 0, none⟩) n c) l := by
 subst hl
 exact ⟨_, c, rfl, hc, hm, fun _ => ⟨g, 0, rfl, h.lt, h.row⟩⟩
theorem BlkE.rw {w : World} {g : Nat} {l : KL f} (h : BlkE w g (esK l)) : RwK w g l :=
 ⟨fun i v hi => (h.cell i).trans hi, fun i _ => h.frozen i, h.lt⟩
end

end Go.Proofs.Ytbakkmfjamcbfaa

namespace Go.Proofs.Ytbakkmfjamcbfaa
open Go.RowKit Fm
set_option linter.unusedVariables false
set_option maxRecDepth 100000

theorem part_at {α : Type} {X S : List α} {j : Nat} (hl : X.length = S.length) (hj : j < S.length) : (X.take j ++ S.drop j)[j]? = S[j]? := by
 have ht : (X.take j).length = j := by rw [List.length_take]; omega
 rw [List.getElem?_append_right (by omega), ht, Nat.sub_self, List.getElem?_drop, Nat.add_zero]
theorem part_set {α : Type} {X S : List α} {j : Nat} {x : α} (hl : X.length = S.length) (hx : X[j]? = some x) : (X.take j ++ S.drop j).set j x = X.take (j + 1) ++ S.drop (j + 1) := by
 have hj := (List.getElem?_eq_some_iff.1 hx).1
 have ht : (X.take j).length = j := by rw [List.length_take]; omega
 rw [List.set_append_right _ _ (by omega), ht, Nat.sub_self, List.drop_eq_getElem_cons (by omega : j < S.length), List.set_cons_zero, List.take_add_one, hx, List.append_assoc]
 rfl
theorem part_length {α : Type} {X S : List α} {j : Nat} (hl : X.length = S.length) : (X.take j ++ S.drop j).length = S.length := by
 rw [List.length_append, List.length_take, List.length_drop]
 omega
theorem part_end {α : Type} {X S : List α} {j : Nat} (hl : X.length = S.length) (hj : j = S.length) : X.take j ++ S.drop j = X := by
 rw [List.take_of_length_le (by omega), List.drop_of_length_le (by omega), List.append_nil]

def outL (f n : Nat) (es : List E) : KL f := (List.range n).map fun j => if es.length = 0 then 0 else kL f (es.getD (j % es.length) (0, 0)).1 (es.getD (j % es.length) (0, 0)).2
theorem outL_length (f n : Nat) (es : List E) : (outL f n es).length = n := by
 unfold outL
 rw [List.length_map, List.length_range]
theorem outL_at {f n : Nat} {es : List E} {j : Nat} (hj : j < n) : (outL f n es)[j]? = some (if es.length = 0 then 0 else kL f (es.getD (j % es.length) (0, 0)).1 (es.getD (j % es.length) (0, 0)).2) := by
 unfold outL
 rw [List.getElem?_map, List.getElem?_range hj]
 rfl
theorem outL_none {f n : Nat} {es : List E} {j : Nat} (hj : j < n) (he : es.length = 0) : (outL f n es)[j]? = some 0 := by
 rw [outL_at hj, if_pos he]
theorem outL_some {f n : Nat} {es : List E} {j q : Nat} (hj : j < n) (he : 0 < es.length) (hq : j % es.length = q) {e : E} (h : es[q]? = some e) : (outL f n es)[j]? = some (kL f e.1 e.2) := by
 rw [outL_at hj, if_neg (by omega), hq]
 rw [List.getD_eq_getElem?_getD, h]
 rfl
theorem addL_at {f : Nat} {S o : KL f} {j : Nat} {x y : Fin (Pm f)} (h1 : S[j]? = some x) (h2 : o[j]? = some y) : (addL S o)[j]? = some (x + y) := by
 unfold addL
 rw [List.getElem?_zipWith, h1, h2]

end Go.Proofs.Ytbakkmfjamcbfaa

namespace Go.Proofs.Ytbakkmfjamcbfaa
open Go.RowKit Fm
set_option linter.unusedVariables false
set_option maxRecDepth 100000

def Cnt {f : Nat} (l : KL f) (N k s : Nat) : Prop := nK f s = ksum (l.take (min k N))
theorem Cnt.zero {f : Nat} (l : KL f) (N : Nat) : Cnt l N 0 0 := by
 unfold Cnt
 rw [nK_zero, Nat.zero_min]
 rfl
theorem Cnt.out {f : Nat} {l : KL f} {N k s : Nat} (h : Cnt l N k s) (hk : ¬ k < N) : Cnt l N (k + 1) s := by
 unfold Cnt at *
 rw [show min (k + 1) N = min k N by omega]
 exact h
def Num {f : Nat} (l : KL f) (j v : Nat) : Prop := nK f v = knum (l.take j) ∧ v < 2 ^ j
theorem Num.zero {f : Nat} (l : KL f) : Num l 0 0 := ⟨by rw [nK_zero]; rfl, by decide⟩
section
variable {f : Nat} (hf : IsF f)
include hf

end

end Go.Proofs.Ytbakkmfjamcbfaa

namespace Go.Proofs.Ytbakkmfjamcbfaa
open Go.RowKit Fm
set_option linter.unusedVariables false
set_option maxRecDepth 100000

theorem SlK.cells {f : Nat} {w : World} {B b o n c k : Nat} {l : KL f} {x : Fin (Pm f)} (h : SlK w B (.slice (some ⟨b, o, none⟩) n c) l) (hk : l[k]? = some x) : b < B ∧ w.cell? ⟨b, o + k * 2, none⟩ = some (.int .u64 (lo x)) ∧ w.cell? ⟨b, o + k * 2 + 1, none⟩ = some (.int .u64 (hi x)) := by
 obtain ⟨A', c', hv, h1, h2, h3⟩ := h
 obtain ⟨b', o', k1, k2, k4⟩ := h3 (by have := (List.getElem?_eq_some_iff.1 hk).1; omega)
 injection hv with e1 e2 e3
 rw [k1] at e1
 injection e1 with e1
 injection e1 with e4 e5 e6
 subst e4
 subst e5
 exact ⟨k2, (k4.kat hk).1, (k4.kat hk).2⟩

def pairL {f : Nat} (v : KL f) (r part : Fin (Pm f)) (s i : Nat) : KL f :=
 if s + i < v.length then [kpw r (i + 1) * v.getD (s + i) 0, v.getD (s + i) 0 - part] else [0, 0]
def argL {f : Nat} (v : KL f) (r part : Fin (Pm f)) (s : Nat) : Nat → KL f
 | 0 => []
 | i + 1 => argL v r part s i ++ pairL v r part s i
def argOf {f : Nat} (y : CK) (v j : KL f) (part : Fin (Pm f)) (k : Nat) : KL f :=
 match y with
 | .count => [v.getD 0 0, v.getD 0 0]
 | .sum _ => [v.getD k 0]
 | .vec _ _ c => argL v (j.getD k 0) part (k * c) c
 | .hist _ c => argL v (j.getD k 0) part (k * c) c
 | .multi _ _ c => argL v (j.getD k 0) part (k * c) c

/-! ### shares -/
def SumL {f : Nat} (a b v : KL f) : Prop := a.length = v.length ∧ b.length = v.length ∧ ∀ (i : Nat) (x y z : Fin (Pm f)), a[i]? = some x → b[i]? = some y → v[i]? = some z → x + y = z
theorem SumL.at {f : Nat} {a b v : KL f} (h : SumL a b v) {i : Nat} (hi : i < v.length) : ∃ x y, a[i]? = some x ∧ b[i]? = some y ∧ v[i]? = some (x + y) := by
 obtain ⟨x, h1⟩ : ∃ x, a[i]? = some x := ⟨_, List.getElem?_eq_getElem (by rw [h.1]; exact hi)⟩
 obtain ⟨y, h2⟩ : ∃ x, b[i]? = some x := ⟨_, List.getElem?_eq_getElem (by rw [h.2.1]; exact hi)⟩
 have h3 : v[i]? = some v[i] := List.getElem?_eq_getElem hi
 have h4 := h.2.2 i _ _ _ h1 h2 h3
 exact ⟨_, _, h1, h2, by rw [h3, h4]⟩
/-! ### directly -/
def CK.size : CK → Nat
 | .sum b => b
 | y => y.c
end Go.Proofs.Ytbakkmfjamcbfaa

namespace Go.Proofs.Ytbakkmfjamcbfaa
open Go.RowKit Fm
set_option linter.unusedVariables false
set_option maxRecDepth 100000

structure Asked {f : Nat} (y : CK) (v j : KL f) (part : Fin (Pm f)) (g : Nat) (cap : Array Value) (Inv : Nat → (Nat → Prop) → World → Prop) (ans : Nat → Fin (Pm f)) (cd : Int) : Prop where
 ent : ∀ (args : Array Value) (w : World), (callFunc g args).run Try.prog w = .ok (.enter g args) w
 run : ∀ k D w va, k < y.calls → St (Inv k) D w → SlX D w va (argOf y v j part k) → Calls Try.prog g (#[va] ++ cap) w fun e w' => e = .returned (.tuple #[vK (ans k), .int .i64 cd]) ∧
  ∃ D', St (Inv (k + 1)) D' w' ∧ (∀ q, D' q → D q ∨ w.heap.size ≤ q) ∧ Exc D w.heap.size w w'

/-! ### what is known of worlds within a region in which the gadget is asked -/
section
variable {D D1 : Nat → Prop} {w0 w w' : World} {I : (Nat → Prop) → World → Prop}
def Rg (D : Nat → Prop) (w0 : World) (I : (Nat → Prop) → World → Prop) (w : World) : Prop := Exc D w0.heap.size w0 w ∧ St I D w
def Rh (D : Nat → Prop) (w0 : World) (I : (Nat → Prop) → World → Prop) (D1 : Nat → Prop) (w : World) : Prop := Exc D w0.heap.size w0 w ∧ St I D1 w ∧ ∀ q, D1 q → D q ∨ w0.heap.size ≤ q
def Nv (D : Nat → Prop) (w0 : World) (c : Nat) (w : World) : Prop := ¬ D c ∧ w0.heap.size ≤ c ∧ V2 w c (.int .u64 0) (.int .u64 0)
def Nw (D : Nat → Prop) (w0 : World) (c : Nat) (x y : Value) (w : World) : Prop := ¬ D c ∧ w0.heap.size ≤ c ∧ V2 w c x y
def Nb (D : Nat → Prop) (w0 : World) (b : Nat) (l : List E) (w : World) : Prop := ¬ D b ∧ w0.heap.size ≤ b ∧ BlkE w b l
theorem Exc.later (h : Exc D w0.heap.size w0 w) (hb : Below w.heap.size w w') : Exc D w0.heap.size w0 w' := h.trans ((exc_of hb).mono h.size)
theorem Rg.clo (D : Nat → Prop) (w0 : World) (I : (Nat → Prop) → World → Prop) : Clo (Rg D w0 I) := fun _ _ h hb => ⟨h.1.later hb, h.2.call hb⟩
theorem Rh.clo (D : Nat → Prop) (w0 : World) (I : (Nat → Prop) → World → Prop) (D1 : Nat → Prop) : Clo (Rh D w0 I D1) := fun _ _ h hb => ⟨h.1.later hb, h.2.1.call hb, h.2.2⟩
theorem Nv.clo (D : Nat → Prop) (w0 : World) (c : Nat) : Clo (Nv D w0 c) := fun _ _ h hb => ⟨h.1, h.2.1, h.2.2.call hb⟩
theorem Nb.clo (D : Nat → Prop) (w0 : World) (b : Nat) (l : List E) : Clo (Nb D w0 b l) := fun _ _ h hb => ⟨h.1, h.2.1, h.2.2.call hb⟩
theorem Nw.clo (D : Nat → Prop) (w0 : World) (c : Nat) (x y : Value) : Clo (Nw D w0 c x y) := fun _ _ h hb => ⟨h.1, h.2.1, h.2.2.call hb⟩
theorem Nv.write {c : Nat} (h : Rh D w0 I D1 w ∧ Nv D1 w0 c w) (x y : Value) : Rh D w0 I D1 ((w.setCell ⟨c, 0, none⟩ x).setCell ⟨c, 1, none⟩ y) ∧ Nw D1 w0 c x y ((w.setCell ⟨c, 0, none⟩ x).setCell ⟨c, 1, none⟩ y) :=
 ⟨⟨h.1.1.st h.2.2.1 x y, h.1.2.1.st h.2.1 x y, h.1.2.2⟩, h.2.1, h.2.2.1, h.2.2.2.set x y⟩
theorem Rg.start (h : St I D w) : Rg D w I w.drew := ⟨exc_of ((Below.refl _ _).drew), h.of (Nat.le_refl _) fun _ _ => rfl⟩
theorem Nv.new (hs : w0.heap.size ≤ w.heap.size) (hD : ∀ q, D q → q < w.heap.size) : Nv D w0 w.heap.size (w.alloc (.cells #[.int .u64 0, .int .u64 0] 99)) :=
 ⟨fun h => by have := hD _ h; omega, hs, V2.new w _ _ _⟩
theorem Nb.new (hs : w0.heap.size ≤ w.heap.size) (hD : ∀ q, D q → q < w.heap.size) (l : List E) (cs : Array Value) (h : cs = (cellsE l).toArray) : Nb D w0 w.heap.size l (w.alloc (.cells cs 99)) :=
 ⟨fun h => by have := hD _ h; omega, hs, BlkE.new w l cs h⟩
theorem Rg.asked {I' : (Nat → Prop) → World → Prop} (h : Rg D w0 I w) (hst : St I' D1 w') (hT : ∀ q, D1 q → D q ∨ w.heap.size ≤ q) (hE : Exc D w.heap.size w w') : Rh D w0 I' D1 w' :=
 ⟨h.1.more hE fun q hq => .inl hq, hst, fun q hq => (hT q hq).imp_right fun h2 => Nat.le_trans h.1.size h2⟩
theorem Nv.asked {c : Nat} (h : Nv D w0 c w) (hT : ∀ q, D1 q → D q ∨ w.heap.size ≤ q) (hE : Exc D w.heap.size w w') : Nv D1 w0 c w' := by
 obtain ⟨h1, h2, h3⟩ := h
 obtain ⟨k1, k2⟩ := h3.ask h1 hE hT
 exact ⟨k2, h2, k1⟩
end

def Rd (D : Nat → Prop) (w0 : World) (I : (Nat → Prop) → World → Prop) (w : World) : Prop := Exc D w0.heap.size w0 w ∧ ∃ D' : Nat → Prop, St I D' w ∧ ∀ q, D' q → D q ∨ w0.heap.size ≤ q
theorem Rd.clo (D : Nat → Prop) (w0 : World) (I : (Nat → Prop) → World → Prop) : Clo (Rd D w0 I) := fun _ _ h hb => ⟨h.1.later hb, by
 obtain ⟨D', h1, h2⟩ := h.2
 exact ⟨D', h1.call hb, h2⟩⟩
theorem Rd.call {D : Nat → Prop} {w0 w w' : World} {I : (Nat → Prop) → World → Prop} (h : Rd D w0 I w) (hb : Below w.heap.size w w') : Rd D w0 I w' := Rd.clo _ _ _ _ _ h hb

end Go.Proofs.Ytbakkmfjamcbfaa

namespace Go.Proofs.Ytbakkmfjamcbfaa
open Go.RowKit Fm
set_option linter.unusedVariables false
set_option maxRecDepth 100000

section
variable {S T : Nat → Prop} {w w' : World} {f : Nat} {v : Value} {l : KL f}
theorem SlX.set (h : SlX S w v l) (hT : ∀ b, T b → S b ∨ w.heap.size ≤ b) : SlX T w v l := by
 obtain ⟨A, c, hv, h1, h2, h3⟩ := h
 refine ⟨A, c, hv, h1, h2, fun hl => ?_⟩
 obtain ⟨b, o, k1, k2, k3, k4⟩ := h3 hl
 exact ⟨b, o, k1, k2, fun ht => (hT b ht).elim k3 (fun h => by omega), k4⟩
theorem grown_exc {row : Option Nat} (hg : w.grownBy w' row) : Exc (fun q => row = some q) w.heap.size w w' :=
 ⟨hg.os, hg.tape, hg.output, hg.size, fun k hk hn => hg.block k hk (fun e => hn e.symm)⟩
theorem own_other {base : Nat} {e : TypeId} {size n : Nat} {xs : List Value} (h : w.ownsRow base e size v n xs) (hb : Exc S w.heap.size w w') (hn : ∀ g, v.ownBlock = some g → ¬ S g) : w'.ownsRow base e size v n xs := by
 refine ⟨h.1, ?_⟩
 rcases h.2 with h | ⟨g, cap, cur, h1, h2, h3, h4⟩
 ·exact .inl h
 ·have hlt := (Array.getElem?_eq_some_iff.1 h3).1
  exact .inr ⟨g, cap, cur, h1, h2, (hb.block _ hlt (hn g (by rw [h1]; rfl))).trans h3, h4⟩
structure PsX (S : Nat → Prop) (w : World) (vs : List Value) (ps : List (KL f)) : Prop where
 len : vs.length = ps.length
 at' : ∀ (i : Nat) (v : Value) (p : KL f), vs[i]? = some v → ps[i]? = some p → SlX S w v p
variable {vs : List Value} {ps : List (KL f)}
theorem PsX.call (h : PsX S w vs ps) (hb : Below w.heap.size w w') : PsX S w' vs ps := ⟨h.len, fun i v p h1 h2 => (h.at' i v p h1 h2).call hb⟩
theorem PsX.exc (h : PsX S w vs ps) (hb : Exc S w.heap.size w w') : PsX S w' vs ps := ⟨h.len, fun i v p h1 h2 => (h.at' i v p h1 h2).exc hb⟩
theorem PsX.set (h : PsX S w vs ps) (hT : ∀ b, T b → S b ∨ w.heap.size ≤ b) : PsX T w vs ps := ⟨h.len, fun i v p h1 h2 => (h.at' i v p h1 h2).set hT⟩
theorem PsX.toK (h : PsX S w vs ps) : PsK w vs ps := ⟨h.len, fun i v p h1 h2 => (h.at' i v p h1 h2).toK⟩
theorem PsX.nil (S : Nat → Prop) (w : World) : PsX S w [] ([] : List (KL f)) := ⟨rfl, fun i v p h => by cases h⟩
theorem PsX.snoc (h : PsX S w vs ps) {v : Value} {p : KL f} (hv : SlX S w v p) : PsX S w (vs ++ [v]) (ps ++ [p]) := by
 refine ⟨by rw [List.length_append, List.length_append, h.len]; rfl, fun i u q h1 h2 => ?_⟩
 by_cases hi : i < vs.length
 ·rw [List.getElem?_append_left hi] at h1
  rw [List.getElem?_append_left (by rw [← h.len]; exact hi)] at h2
  exact h.at' i u q h1 h2
 ·rw [List.getElem?_append_right (by omega)] at h1
  rw [List.getElem?_append_right (by rw [← h.len]; omega), ← h.len] at h2
  obtain ⟨k, hk⟩ : ∃ k, i - vs.length = k := ⟨_, rfl⟩
  rw [hk] at h1 h2
  cases k with
  | zero =>
   injection h1 with h1
   injection h2 with h2
   subst h1
   subst h2
   exact hv
  | succ k => simp at h1
theorem PsX.grown {r r' : Option Nat} {U : Nat → Prop} (h : PsX (fun b => r = some b ∨ U b) w vs ps) (hg : w.grownBy w' r) (hr : r' = r ∨ r' = some w.heap.size) : PsX (fun b => r' = some b ∨ U b) w' vs ps := by
 have h1 : PsX (fun b => (r = some b ∨ U b) ∨ r' = some b) w vs ps := h.set fun b hb => by
  rcases hb with hb | hb
  ·exact .inl hb
  ·rcases hr with hr | hr
   ·exact .inl (.inl (hr.symm.trans hb))
   ·exact .inr (by rw [hr] at hb; exact Nat.le_of_eq (Option.some.inj hb))
 have h2 := h1.exc ((grown_exc hg).less fun k _ hk => .inl (.inl hk))
 exact ⟨h2.len, fun i v p k1 k2 => (h2.at' i v p k1 k2).set fun b hb => .inl (by
  rcases hb with hb | hb
  ·exact .inr hb
  ·exact .inl (.inr hb))⟩
end

end Go.Proofs.Ytbakkmfjamcbfaa
