/-
  WALK: CircuitShares' first answer. (Printed by wip/tools/mkone.py.)
-/
/-
  CircuitShares' three runs.
-/
import Derived.Test.YtiphahbeedeebaaMbc
import Derived.Test.YtiphahbeedeebaaMak
import Derived.Test.YtiphahbeedeebaaMar
import Derived.Test.YtiphahbeedeebaaMah
namespace Go.Proofs.Ytiphahbeedeebaa
open Go.RowKit Fm
set_option linter.unusedVariables false
set_option maxRecDepth 100000

def Tb (w1 wz : World) : Prop := Below w1.heap.size w1 wz
theorem Tb.clo (w1 : World) : Clo (Tb w1) := Clo.below w1
theorem Tb.size {w1 wz : World} (h : Tb w1 wz) : w1.heap.size ≤ wz.heap.size := Below.size h
def Gq {f : Nat} (gd : Gad f) (q : Int × Value × Int) (wz : World) : Prop := RepG wz wz.heap.size q.1 q.2.1 q.2.2 gd
theorem Gq.clo {f : Nat} (gd : Gad f) (q : Int × Value × Int) : Clo (Gq gd q) := fun _ _ h hb => h.later hb
def Nz (w1 : World) (c : Nat) (x y : Value) (wz : World) : Prop := w1.heap.size ≤ c ∧ V2 wz c x y
theorem Nz.clo (w1 : World) (c : Nat) (x y : Value) : Clo (Nz w1 c x y) := fun _ _ h hb => ⟨h.1, h.2.call hb⟩

theorem argOf_lenS {f : Nat} (y : CK) (v j : KL f) (part : Fin (Pm f)) (k : Nat) : (argOf y v j part k).length = (y.gad f).arity := by
  cases y with
  | count => rfl
  | sum b => rfl
  | vec b l c => exact argL_length _ _ _ _ _
  | hist l c => exact argL_length _ _ _ _ _
  | multi l m c => exact argL_length _ _ _ _ _

def FxOne (yb fb pb : Nat) (q : Nat) : Prop := q = yb ∨ q = fb ∨ q = pb
/-- what the first answer holds -/
def InvOne {f : Nat} (cs : List Value) (_ : Nat) (ans : Nat → Fin (Pm f)) (yb fb pb : Nat) (k : Nat) (D : Nat → Prop) (w : World) : Prop :=
  (D fb ∧ D yb ∧ D pb) ∧ (Vs w yb cs ∧ Vs w fb [.int .u8 f]) ∧ LstB (FxOne yb fb pb) pb (ansL ans k) D w
theorem InvOne.st {f g : Nat} {cs : List Value} {ans : Nat → Fin (Pm f)} {yb fb pb k : Nat} {D : Nat → Prop} {w : World} (h : InvOne cs g ans yb fb pb k D w) (hlt : ∀ q, D q → q < w.heap.size) : St (InvOne cs g ans yb fb pb k) D w :=
  ⟨h, hlt, fun w w' ⟨⟨d1, d2, d3⟩, ⟨g1, g2⟩, g4⟩ hb => ⟨⟨d1, d2, d3⟩, ⟨g1.sameC (hb _ d2), g2.sameC (hb _ d1)⟩, g4.same d3 hb⟩⟩

section
variable {f : Nat} (hf : IsF f)
include hf

set_option maxHeartbeats 8000000 in
theorem asked_one (y : CK) (hy : y.ok) (hcl : y.calls ≤ 511) (v j : KL f) (part : Fin (Pm f)) (yb fb pb : Nat) (n1 : fb ≠ pb) (n2 : yb ≠ pb) :
    AskedA y v j part 79 #[.pointer (some ⟨yb, 0, none⟩), .pointer (some ⟨fb, 0, none⟩), .pointer (some ⟨pb, 0, none⟩)] (InvOne [.int .u8 (y.k : Nat), .int .u8 f, .int .i64 (y.b : Nat), .int .i64 (y.l : Nat), .int .i64 (y.m : Nat), .int .i64 (y.c : Nat)] f (fun k => gval (y.gad f) (argOf y v j part k)) yb fb pb) (fun k => gval (y.gad f) (argOf y v j part k)) := by
  refine ⟨fun args w => by kernel_rfl, fun k D w va hk hst hv => ?_⟩
  have hlt0 := hst.lt
  obtain ⟨⟨d1, d2, d3⟩, ⟨hab, hfb⟩, A1, c1, hpb, hown, hold⟩ := hst.here
  clear hst
  rw [ansL_length] at hpb hown hold
  have HGAD : Hid (∀ wz, Calls Try.prog 60 #[y.val f] wz (RetG (y.gad f) wz)) := fun wz => circuit_Gadget hf y hy wz
  have HOF := Lib.hid (fun wz (k' : Int) (sl : Value) (n : Int) (h : RepG wz wz.heap.size k' sl n (y.gad f)) (hs : SlK wz wz.heap.size va (argOf y v j part k)) => gadget_Of hf wz (y.gad f) k' sl n h va _ hs (argOf_lenS y v j part k))
  obtain ⟨ansOne, hans⟩ : ∃ a : Nat → Fin (Pm f), (fun k => gval (y.gad f) (argOf y v j part k)) = a := ⟨_, rfl⟩
  have hak : gval (y.gad f) (argOf y v j part k) = ansOne k := by rw [← hans]
  rw [hak] at HOF
  rw [hans] at hown ⊢
  try rw [hak]
  obtain ⟨x, hx⟩ : ∃ x, ansOne k = x := ⟨_, rfl⟩
  rw [hx] at HOF
  have HX := Lib.hid hx
  have hk511 : k ≤ 511 := by omega
  show Calls Try.prog 79 #[.int .i64 (k : Nat), va, .pointer (some ⟨yb, 0, none⟩), .pointer (some ⟨fb, 0, none⟩), .pointer (some ⟨pb, 0, none⟩)] w fun e w' => e = .returned (vK (ansOne k)) ∧ _
  rw [hx]
  clear hx hak hans
  obtain ⟨cs, hcs⟩ : ∃ cs : List Value, [.int .u8 (y.k : Nat), .int .u8 f, .int .i64 (y.b : Nat), .int .i64 (y.l : Nat), .int .i64 (y.m : Nat), .int .i64 (y.c : Nat)] = cs := ⟨_, rfl⟩
  have HCS := Lib.hid hcs
  rw [hcs]
  clear hcs
  have hfI0 : (1 : Int) ≤ (f : Int) := by rcases hf.or with rfl | rfl <;> omega
  have hfI1 : (f : Int) ≤ 2 := by rcases hf.or with rfl | rfl <;> omega
  have HOLD := Lib.hid hold
  have HLT0 := Lib.hid hlt0
  unfold CK.val at HGAD
  generalize y.gad f = gd at *
  generalize ((y.k : Nat) : Int) = K at *
  generalize ((y.b : Nat) : Int) = B at *
  generalize ((y.l : Nat) : Int) = N at *
  generalize ((y.m : Nat) : Int) = M at *
  generalize ((y.c : Nat) : Int) = C at *
  have hb00 : Below w.heap.size w w := Below.refl _ _
  clear hold hlt0 hcl hy
  go_enter Try.func79, Try.ntmps79
  go_upto_region 1 with fail
  have s0 := V2.new w (.int .u64 0) (.int .u64 0) 41
  have hbA : Below w.heap.size w (w.alloc (.cells #[.int .u64 0, .int .u64 0] 41)) := by repeat (first | exact Below.refl _ _ | with_reducible assumption | (refine bl_alloc ?_ (Nat.le_refl _) _))
  replace hb00 := bl_call hb00 (Nat.le_refl _) hbA
  replace hfb := hfb.call hbA
  replace hab := hab.call hbA
  replace hpb := hpb.call hbA
  replace hown := own_call hown hbA
  replace hv := hv.call hbA
  clear hbA
  generalize w.alloc (.cells #[.int .u64 0, .int .u64 0] 41) = w1 at hb00 hfb hab hpb hown hv s0 ⊢
  have hs1 : w.heap.size < w1.heap.size := s0.lt
  have HLK := Lib.hid hv.toK
  clear hv
  refine region_X (Tb w1) (Tb w1) (fun _ h => h) (Tb.clo w1) ((Below.refl _ _).drew) (n := 10) (m := 11) (f := 10) (by kernel_rfl) (by kernel_rfl) rfl ?_
  refine WpX.takeD 0 (some 11) (v := ?_) rfl rfl (by kernel_rfl) (fun _ _ _ h => h) (.val rfl (fun wz hwz => ?_)) ?_
  rotate_left
  · obtain ⟨⟨f0, f1, f2, f3, f4, f5⟩, ⟨f6, f7, f8, f9, f10, f11⟩, f12⟩ := (hab.call hwz).get6; go_simp; try (with_reducible rfl)
  (simp only [Act.put]); (try simp only [List.setIfInBounds_toArray]); (try simp only [List.set_cons_succ]); (try simp only [List.set_cons_zero])
  refine WpX.takeD 2 (some 13) (v := ?_) rfl rfl (by kernel_rfl) (fun _ _ _ h => h) (.val rfl (fun wz hwz => ?_)) ?_
  rotate_left
  · obtain ⟨f0, f1, f2⟩ := (hfb.call hwz).get1; go_simp; try (with_reducible rfl)
  (simp only [Act.put]); (try simp only [List.setIfInBounds_toArray]); (try simp only [List.set_cons_succ]); (try simp only [List.set_cons_zero])
  refine WpX.takeD 3 (some 14) (v := ?_) rfl rfl (by kernel_rfl) (fun _ _ _ h => h) (.val rfl (fun wz hwz => ?_)) ?_
  rotate_left
  · go_simp; try (with_reducible rfl)
  (simp only [Act.put]); (try simp only [List.setIfInBounds_toArray]); (try simp only [List.set_cons_succ]); (try simp only [List.set_cons_zero])
  refine WpX.twoD 1 8 (some 12) (some 8) rfl rfl rfl rfl (by kernel_rfl) (fun q : Int × Value × Int => Value.agg #[.int .u8 q.1, q.2.1, .int .i64 q.2.2]) (fun _ => (Tb w1)) (fun q wz => (Tb w1) wz ∧ Gq gd q wz) (Turns.call rfl (fun _ _ h => h) (fun _ _ h => h.1) (fun q => Clo.and (Tb.clo w1) (Gq.clo gd q)) (fun wz h => (HGAD.out wz).mono fun e w' ⟨k, sl, n, he, hr, hb⟩ => ⟨(k, sl, n), he, (Tb.clo w1) _ _ h hb, hr⟩) (fun wz h => by go_simp; try (with_reducible rfl))) (fun c : Nat => Value.pointer (some ⟨c, 0, none⟩)) (fun _ => (Tb w1)) (fun c wz => (Tb w1) wz ∧ Nz w1 c (.int .u64 0) (.int .u64 0) wz) (Turns.val rfl (fun _ _ h => h) (fun _ _ h => h.1) (fun c => Clo.and (Tb.clo w1) (Nz.clo w1 c _ _)) (fun wz h => ⟨wz.heap.size, wz.alloc (.cells #[.int .u64 0, .int .u64 0] 41), by go_simp; try (with_reducible rfl), (Tb.clo w1) _ _ h ((Below.refl _ _).alloc (Nat.le_refl _) _), Tb.size h, V2.new wz _ _ _⟩)) (fun gq => ?rga) (fun zb => ?rgb)
  case' rga =>
    (simp only [Act.put]); (try simp only [List.setIfInBounds_toArray]); (try simp only [List.set_cons_succ]); (try simp only [List.set_cons_zero])
    refine WpX.twoD 4 8 (some 15) (some 8) rfl rfl rfl rfl (by kernel_rfl) (fun _ : Unit => Value.tuple #[vK x, .int .i64 0]) (fun _ => (Tb w1)) (fun _ => (Tb w1)) (Turns.call rfl (fun _ _ h => h) (fun _ _ h => h) (fun _ => (Tb.clo w1)) (fun wz h => (HOF.out wz gq.1 gq.2.1 gq.2.2 h.2 (HLK.out.later h.1)).mono fun e w' ⟨he, hb⟩ => ⟨(), he, (Tb.clo w1) _ _ h.1 hb⟩) (fun wz h => by go_simp; try (with_reducible rfl))) (fun c : Nat => Value.pointer (some ⟨c, 0, none⟩)) (fun _ => (Tb w1)) (fun c wz => (fun wz => Tb w1 wz ∧ Gq gd gq wz) wz ∧ Nz w1 c (.int .u64 0) (.int .u64 0) wz) (Turns.val rfl (fun _ _ h => h) (fun _ _ h => h.1.1) (fun c => Clo.and (Clo.and (Tb.clo w1) (Gq.clo gd gq)) (Nz.clo w1 c _ _)) (fun wz h => ⟨wz.heap.size, wz.alloc (.cells #[.int .u64 0, .int .u64 0] 41), by go_simp; try (with_reducible rfl), (Clo.and (Tb.clo w1) (Gq.clo gd gq)) _ _ h ((Below.refl _ _).alloc (Nat.le_refl _) _), Tb.size h.1, V2.new wz _ _ _⟩)) (fun _ => ?rgaa) (fun zb => ?rgab)
  case' rgaa =>
    (simp only [Act.put]); (try simp only [List.setIfInBounds_toArray]); (try simp only [List.set_cons_succ]); (try simp only [List.set_cons_zero])
    refine WpX.takeD 5 (some 10) (v := ?_) rfl rfl (by kernel_rfl) (fun _ _ _ h => h) (.val rfl (fun wz hwz => ?_)) ?_
    rotate_left
    · go_simp; try (with_reducible rfl)
    (simp only [Act.put]); (try simp only [List.setIfInBounds_toArray]); (try simp only [List.set_cons_succ]); (try simp only [List.set_cons_zero])
    refine WpX.takeD 6 (some 16) (v := ?_) rfl rfl (by kernel_rfl) (fun _ _ _ h => h) (.val rfl (fun wz hwz => ?_)) ?_
    rotate_left
    · go_simp; try (with_reducible rfl)
    (simp only [Act.put]); (try simp only [List.setIfInBounds_toArray]); (try simp only [List.set_cons_succ]); (try simp only [List.set_cons_zero])
    refine WpX.takeD 7 (some 17) (v := ?_) rfl rfl (by kernel_rfl) (fun _ _ _ h => h) (.val rfl (fun wz hwz => ?_)) ?_
    rotate_left
    · go_simp; try (with_reducible rfl)
    (simp only [Act.put]); (try simp only [List.setIfInBounds_toArray]); (try simp only [List.set_cons_succ]); (try simp only [List.set_cons_zero])
    refine WpX.oneD 8 (some 8) rfl rfl (by kernel_rfl) (fun c : Nat => Value.pointer (some ⟨c, 0, none⟩)) (fun _ => (Tb w1)) (fun c wz => (Tb w1) wz ∧ Nz w1 c (.int .u64 0) (.int .u64 0) wz) (Turns.val rfl (fun _ _ h => h) (fun _ _ h => h.1) (fun c => Clo.and (Tb.clo w1) (Nz.clo w1 c _ _)) (fun wz h => ⟨wz.heap.size, wz.alloc (.cells #[.int .u64 0, .int .u64 0] 41), by go_simp; try (with_reducible rfl), (Tb.clo w1) _ _ h ((Below.refl _ _).alloc (Nat.le_refl _) _), Tb.size h, V2.new wz _ _ _⟩)) (fun zb => ?_)
    (simp only [Act.put]); (try simp only [List.setIfInBounds_toArray]); (try simp only [List.set_cons_succ]); (try simp only [List.set_cons_zero])
    refine WpX.oneSkip 9 none rfl rfl (by kernel_rfl) (Tb w1) (fun wz => Tb w1 wz ∧ Nz w1 zb (.int .u64 (lo x)) (.int .u64 (hi x)) wz) (fun _ h => h) (fun _ h => h.1) (Clo.and (Tb.clo w1) (Nz.clo w1 zb _ _)) rfl (fun wz h => ?_) ?_
    · obtain ⟨c0, c1, c2, c3, c4⟩ := h.2.2; exact ⟨_, by go_simp; try (with_reducible rfl), bl_st h.1 h.2.1 _ _, h.2.1, h.2.2.set _ _⟩
    (simp only [Act.put]); (try simp only [List.setIfInBounds_toArray]); (try simp only [List.set_cons_succ]); (try simp only [List.set_cons_zero])
    refine WpX.done (by kernel_rfl) (fun w4 hS => ?_)
    (try simp only [List.drop_succ_cons]); (try simp only [List.drop_zero]); (try simp only [Nat.reduceSub]); (try simp only [List.take_succ_cons]); (try simp only [List.take_zero])
  case' rgab =>
    (simp only [Act.put]); (try simp only [List.setIfInBounds_toArray]); (try simp only [List.set_cons_succ]); (try simp only [List.set_cons_zero])
    refine WpX.oneD 4 (some 15) rfl rfl (by kernel_rfl) (fun _ : Unit => Value.tuple #[vK x, .int .i64 0]) (fun _ => (Tb w1)) (fun _ => (fun wz => Tb w1 wz ∧ Nz w1 zb (.int .u64 0) (.int .u64 0) wz)) (Turns.call rfl (fun _ _ h => h) (fun _ _ h => h.1) (fun _ => (Clo.and (Tb.clo w1) (Nz.clo w1 zb _ _))) (fun wz h => (HOF.out wz gq.1 gq.2.1 gq.2.2 h.1.2 (HLK.out.later h.1.1)).mono fun e w' ⟨he, hb⟩ => ⟨(), he, (Clo.and (Tb.clo w1) (Nz.clo w1 zb _ _)) _ _ ⟨h.1.1, h.2⟩ hb⟩) (fun wz h => by go_simp; try (with_reducible rfl))) (fun _ => ?_)
    (simp only [Act.put]); (try simp only [List.setIfInBounds_toArray]); (try simp only [List.set_cons_succ]); (try simp only [List.set_cons_zero])
    refine WpX.takeD 5 (some 10) (v := ?_) rfl rfl (by kernel_rfl) (fun _ _ _ h => h) (.val rfl (fun wz hwz => ?_)) ?_
    rotate_left
    · go_simp; try (with_reducible rfl)
    (simp only [Act.put]); (try simp only [List.setIfInBounds_toArray]); (try simp only [List.set_cons_succ]); (try simp only [List.set_cons_zero])
    refine WpX.takeD 6 (some 16) (v := ?_) rfl rfl (by kernel_rfl) (fun _ _ _ h => h) (.val rfl (fun wz hwz => ?_)) ?_
    rotate_left
    · go_simp; try (with_reducible rfl)
    (simp only [Act.put]); (try simp only [List.setIfInBounds_toArray]); (try simp only [List.set_cons_succ]); (try simp only [List.set_cons_zero])
    refine WpX.takeD 7 (some 17) (v := ?_) rfl rfl (by kernel_rfl) (fun _ _ _ h => h) (.val rfl (fun wz hwz => ?_)) ?_
    rotate_left
    · go_simp; try (with_reducible rfl)
    (simp only [Act.put]); (try simp only [List.setIfInBounds_toArray]); (try simp only [List.set_cons_succ]); (try simp only [List.set_cons_zero])
    refine WpX.oneSkip 9 none rfl rfl (by kernel_rfl) (Tb w1) (fun wz => Tb w1 wz ∧ Nz w1 zb (.int .u64 (lo x)) (.int .u64 (hi x)) wz) (fun _ h => h) (fun _ h => h.1) (Clo.and (Tb.clo w1) (Nz.clo w1 zb _ _)) rfl (fun wz h => ?_) ?_
    · obtain ⟨c0, c1, c2, c3, c4⟩ := h.2.2; exact ⟨_, by go_simp; try (with_reducible rfl), bl_st h.1 h.2.1 _ _, h.2.1, h.2.2.set _ _⟩
    (simp only [Act.put]); (try simp only [List.setIfInBounds_toArray]); (try simp only [List.set_cons_succ]); (try simp only [List.set_cons_zero])
    refine WpX.done (by kernel_rfl) (fun w4 hS => ?_)
    (try simp only [List.drop_succ_cons]); (try simp only [List.drop_zero]); (try simp only [Nat.reduceSub]); (try simp only [List.take_succ_cons]); (try simp only [List.take_zero])
  case' rgb =>
    (simp only [Act.put]); (try simp only [List.setIfInBounds_toArray]); (try simp only [List.set_cons_succ]); (try simp only [List.set_cons_zero])
    refine WpX.oneD 1 (some 12) rfl rfl (by kernel_rfl) (fun q : Int × Value × Int => Value.agg #[.int .u8 q.1, q.2.1, .int .i64 q.2.2]) (fun _ => (Tb w1)) (fun q wz => (fun wz => Tb w1 wz ∧ Nz w1 zb (.int .u64 0) (.int .u64 0) wz) wz ∧ Gq gd q wz) (Turns.call rfl (fun _ _ h => h) (fun _ _ h => h.1.1) (fun q => Clo.and (Clo.and (Tb.clo w1) (Nz.clo w1 zb _ _)) (Gq.clo gd q)) (fun wz h => (HGAD.out wz).mono fun e w' ⟨k, sl, n, he, hr, hb⟩ => ⟨(k, sl, n), he, (Clo.and (Tb.clo w1) (Nz.clo w1 zb _ _)) _ _ h hb, hr⟩) (fun wz h => by go_simp; try (with_reducible rfl))) (fun gq => ?_)
    (simp only [Act.put]); (try simp only [List.setIfInBounds_toArray]); (try simp only [List.set_cons_succ]); (try simp only [List.set_cons_zero])
    refine WpX.oneD 4 (some 15) rfl rfl (by kernel_rfl) (fun _ : Unit => Value.tuple #[vK x, .int .i64 0]) (fun _ => (Tb w1)) (fun _ => (fun wz => Tb w1 wz ∧ Nz w1 zb (.int .u64 0) (.int .u64 0) wz)) (Turns.call rfl (fun _ _ h => h) (fun _ _ h => h.1) (fun _ => (Clo.and (Tb.clo w1) (Nz.clo w1 zb _ _))) (fun wz h => (HOF.out wz gq.1 gq.2.1 gq.2.2 h.2 (HLK.out.later h.1.1)).mono fun e w' ⟨he, hb⟩ => ⟨(), he, (Clo.and (Tb.clo w1) (Nz.clo w1 zb _ _)) _ _ h.1 hb⟩) (fun wz h => by go_simp; try (with_reducible rfl))) (fun _ => ?_)
    (simp only [Act.put]); (try simp only [List.setIfInBounds_toArray]); (try simp only [List.set_cons_succ]); (try simp only [List.set_cons_zero])
    refine WpX.takeD 5 (some 10) (v := ?_) rfl rfl (by kernel_rfl) (fun _ _ _ h => h) (.val rfl (fun wz hwz => ?_)) ?_
    rotate_left
    · go_simp; try (with_reducible rfl)
    (simp only [Act.put]); (try simp only [List.setIfInBounds_toArray]); (try simp only [List.set_cons_succ]); (try simp only [List.set_cons_zero])
    refine WpX.takeD 6 (some 16) (v := ?_) rfl rfl (by kernel_rfl) (fun _ _ _ h => h) (.val rfl (fun wz hwz => ?_)) ?_
    rotate_left
    · go_simp; try (with_reducible rfl)
    (simp only [Act.put]); (try simp only [List.setIfInBounds_toArray]); (try simp only [List.set_cons_succ]); (try simp only [List.set_cons_zero])
    refine WpX.takeD 7 (some 17) (v := ?_) rfl rfl (by kernel_rfl) (fun _ _ _ h => h) (.val rfl (fun wz hwz => ?_)) ?_
    rotate_left
    · go_simp; try (with_reducible rfl)
    (simp only [Act.put]); (try simp only [List.setIfInBounds_toArray]); (try simp only [List.set_cons_succ]); (try simp only [List.set_cons_zero])
    refine WpX.oneSkip 9 none rfl rfl (by kernel_rfl) (Tb w1) (fun wz => Tb w1 wz ∧ Nz w1 zb (.int .u64 (lo x)) (.int .u64 (hi x)) wz) (fun _ h => h) (fun _ h => h.1) (Clo.and (Tb.clo w1) (Nz.clo w1 zb _ _)) rfl (fun wz h => ?_) ?_
    · obtain ⟨c0, c1, c2, c3, c4⟩ := h.2.2; exact ⟨_, by go_simp; try (with_reducible rfl), bl_st h.1 h.2.1 _ _, h.2.1, h.2.2.set _ _⟩
    (simp only [Act.put]); (try simp only [List.setIfInBounds_toArray]); (try simp only [List.set_cons_succ]); (try simp only [List.set_cons_zero])
    refine WpX.done (by kernel_rfl) (fun w4 hS => ?_)
    (try simp only [List.drop_succ_cons]); (try simp only [List.drop_zero]); (try simp only [Nat.reduceSub]); (try simp only [List.take_succ_cons]); (try simp only [List.take_zero])
  all_goals
    obtain ⟨hb4, hzb, hy⟩ := hS
    have hb4' : Below w1.heap.size w1 w4 := hb4
    replace hb00 := bl_call hb00 (Nat.le_refl _) hb4'
    replace hfb := hfb.call hb4'
    replace hab := hab.call hb4'
    replace hpb := hpb.call hb4'
    replace hown := own_call hown hb4'
    replace s0 := s0.call hb4'
    clear hb4 hb4'
    go_upto_region 2 with fail
    generalize w4 = w5 at *
    have hbA : Below w5.heap.size w5 (w5.alloc (.cells #[.int .u64 (lo x), .int .u64 (hi x)] 41)) := by repeat (first | exact Below.refl _ _ | with_reducible assumption | (refine bl_alloc ?_ (Nat.le_refl _) _) | (refine bl_set ?_ (by dsimp only; omega) _) | (refine Below.drew ?_) | (refine bl_drewN ?_ _) | (refine bl_call ?_ (Nat.le_refl _) (by assumption)))
    have HRW : Hid (0 < 1 → ∃ b o, (some ⟨w5.heap.size, 0, none⟩ : Option Addr) = some ⟨b, o, none⟩ ∧ RowE (w5.alloc (.cells #[.int .u64 (lo x), .int .u64 (hi x)] 41)) b o [eK x]) := fun _ => ⟨_, _, rfl, (BlkE.new w5 [eK x] _ rfl).rowE⟩
    have HOW := Lib.hid (own_call hown hbA)
    have hp5 := hpb.call hbA
    have hy5 := hy.call hbA
    have hf5 := hfb.call hbA
    have ha5 := hab.call hbA
    have hs5 := s0.call hbA
    have hbw5 := bl_call hb00 (Nat.le_refl _) hbA
    have hsz5 := hbw5.size
    have hk11 : k + 1 ≤ 1099511627776 := by omega
    obtain ⟨pb0, pb1, pb2⟩ := hpb.get1
    obtain ⟨y0, y1, y2, y3, y4⟩ := V2.mk hy.c0 hy.c1 hy.f0 hy.f1 hy.lt
    go_upto_region 3 with (at_builtin; (refine wpList_append_E rfl (.tmp 18) (.tmp 20) rfl 0 _ k (esK (ansL (ansOne) k)) rfl HOW.out (some ⟨w5.heap.size, 0, none⟩) 1 1 [eK x] rfl rfl HRW.out hk11 (Nat.zero_le _) ?_; intro v2 w6 hown6 hg6 hat6; obtain ⟨g2, cap2, hv2⟩ := own_slice hown6; rw [hv2]; have hp6 : Vs w6 pb [.slice A1 k c1] := hp5.sameC (hg6.block pb hp5.lt (fun e => (HOLD.out pb e.symm).2 (.inr (.inr rfl)))); clear pb0 pb1 pb2; obtain ⟨pb0, pb1, pb2⟩ := hp6.get1))
    rw [hv2] at hown6 hat6
    have hFx : ∀ q, FxOne yb fb pb q → q < (w5.alloc (.cells #[.int .u64 (lo x), .int .u64 (hi x)] 41)).heap.size := fun q hq => by
      rcases hq with rfl | rfl | rfl
      · exact ha5.lt
      · exact hf5.lt
      · exact hp5.lt
    have hG := grow_all (D := D) (Fx := FxOne yb fb pb) (.slice (some ⟨g2, 0, none⟩) (k + 1) cap2) hg6 hat6 HOLD.out hFx (.inr (.inr rfl)) d3
    have hp7 := hp6.put 0 (by simp) (.slice (some ⟨g2, 0, none⟩) (k + 1) cap2)
    have ho7 := own_same hown6 fun q hq => (hG.2.2 q hq).2.2
    have hbw6 := hbw5
    clear pb0 pb1 pb2 hown6 hg6 hat6 hv2 HRW HOW hp6 hbA
    generalize w6.setCell ⟨pb, 0, none⟩ (.slice (some ⟨g2, 0, none⟩) (k + 1) cap2) = w7 at *
    have hf7 := hf5.sameC (hG.1 fb (.inr (.inl rfl)) n1)
    have ha7 := ha5.sameC (hG.1 yb (.inl rfl) n2)
    have nD1 : ¬ D w.heap.size := fun h => by have := HLT0.out _ h; omega
    have nD2 : ¬ D zb := fun h => by have := HLT0.out _ h; omega
    have s7 := hs5.exc nD1 hG.2.1
    have y7 := hy5.exc nD2 hG.2.1
    have hexc : Exc D w.heap.size w w7 := (exc_of hbw5).trans (hG.2.1.mono hsz5)
    have hD7 : ∀ q, (D q ∨ (Value.slice (some ⟨g2, 0, none⟩) (k + 1) cap2).ownBlock = some q) → D q ∨ w.heap.size ≤ q := fun q hq => by
      rcases hq with h | h
      · exact .inl h
      · exact (hG.2.2 q h).1.imp_right fun h2 => Nat.le_trans hsz5 h2
    have hst7 : St (InvOne cs f ansOne yb fb pb (k + 1)) (fun q => D q ∨ (Value.slice (some ⟨g2, 0, none⟩) (k + 1) cap2).ownBlock = some q) w7 := by
      refine InvOne.st ⟨⟨.inl d1, .inl d2, .inl d3⟩, ⟨(by rw [← HCS.out]; exact ha7), hf7⟩, some ⟨g2, 0, none⟩, cap2, by rw [ansL_length]; exact hp7, ?_, ?_⟩ ?_
      · rw [ansL_length, show esK (ansL (ansOne) (k + 1)) = esK (ansL (ansOne) k) ++ [eK x] by
          rw [show ansL (ansOne) (k + 1) = ansL (ansOne) k ++ [x] by rw [← HX.out]; rfl, esK_append]
          rfl]
        exact ho7
      · rw [ansL_length]
        exact fun q hq => ⟨.inr hq, (hG.2.2 q hq).2.1⟩
      · intro q hq
        rcases hq with h | h
        · exact Nat.lt_of_lt_of_le (HLT0.out q h) hexc.size
        · exact (ho7.lt q h).2
    have nD3 : ¬ (D w.heap.size ∨ (Value.slice (some ⟨g2, 0, none⟩) (k + 1) cap2).ownBlock = some w.heap.size) := fun h => by
      rcases h with h | h
      · exact nD1 h
      · rcases (hG.2.2 _ h).1 with h2 | h2
        · exact nD1 h2
        · have : w.heap.size < (w5.alloc (.cells #[.int .u64 (lo x), .int .u64 (hi x)] 41)).heap.size := hs5.lt
          omega
    clear hG hp7 ho7 hf7 ha7 hp5 hf5 ha5 hs5 hy5
    obtain ⟨s70, s71, s72, s73, s74⟩ := V2.mk s7.c0 s7.c1 s7.f0 s7.f1 s7.lt
    obtain ⟨y70, y71, y72, y73, y74⟩ := V2.mk y7.c0 y7.c1 y7.f0 y7.f1 y7.lt
    go_wp2_with fail
    refine bodyPost_ret (results_v2 (b := w.heap.size) (u := .int .u64 (lo x)) (v := .int .u64 (hi x)) ?_ rfl rfl) rfl ?_
    · exact V2.set s7 _ _
    · exact ⟨rfl, _, hst7.st nD3 _ _, hD7, hexc.st (Nat.le_refl _) _ _⟩
end

end Go.Proofs.Ytiphahbeedeebaa

namespace Go.Proofs.Ytiphahbeedeebaa
open Go.RowKit Fm
set_option linter.unusedVariables false
set_option maxRecDepth 100000

theorem own_row {w : World} {A : Option Addr} {n cp : Nat} {xs : List E} (h : w.ownsRow 0 41 2 (.slice A n cp) n (cellsE xs)) (hn : 0 < n) (hl : xs.length = n) (ok : ∀ e, e ∈ xs → okE e) : ∃ g, A = some ⟨g, 0, none⟩ ∧ RowE w g 0 xs ∧ g < w.heap.size := by
  have hs := SlE.of_own (xs := xs) (by rw [hl]; exact h) ok
  obtain ⟨m, rfl⟩ : ∃ m, n = m + 1 := ⟨n - 1, by omega⟩
  obtain ⟨g, cap, hv⟩ := own_slice h
  injection hv with e1 e2 e3
  subst e1
  obtain ⟨⟨A', c', hv2, _, _, h3⟩, _⟩ := hs
  injection hv2 with e1 e2 e3
  obtain ⟨b, o, k1, k2, k3⟩ := h3 (by omega)
  rw [← e1] at k1
  injection k1 with k1
  injection k1 with k4 k5 k6
  subst k4
  subst k5
  exact ⟨_, rfl, k3, k2⟩

abbrev cirL (f : Nat) (y : CK) : List Value := [.int .u8 (y.k : Nat), .int .u8 f, .int .i64 (y.b : Nat), .int .i64 (y.l : Nat), .int .i64 (y.m : Nat), .int .i64 (y.c : Nat)]

section
variable {f : Nat} (hf : IsF f)
include hf

theorem sh_one (y : CK) (hy : y.ok) (hcl : y.calls ≤ 511) (v j : KL f) (hl : v.length = y.nin) (hjl : j.length = y.joint) (gv gj yb fb wb jb : Nat) (n1 : fb ≠ wb) (n2 : yb ≠ wb) (w : World) (hV : BlkE w gv (esK v)) (hJ : BlkE w gj (esK j)) (nv : gv ≠ yb ∧ gv ≠ fb ∧ gv ≠ wb) (nj : gj ≠ yb ∧ gj ≠ fb ∧ gj ≠ wb)
    (hyb : Vs w yb (cirL f y)) (hfb : Vs w fb [.int .u8 f]) (hwb : Vs w wb [.slice none 0 0]) (hjb : Vs w jb [.slice (some ⟨gj, 0, none⟩) y.joint y.joint]) :
    Calls Try.prog 77 #[.slice (some ⟨gv, 0, none⟩) y.nin y.nin, .int .i64 1, .func (.func 79) #[] #[.pointer (some ⟨yb, 0, none⟩), .pointer (some ⟨fb, 0, none⟩), .pointer (some ⟨wb, 0, none⟩)], .pointer (some ⟨yb, 0, none⟩), .pointer (some ⟨jb, 0, none⟩)] w fun e w' =>
      e = .returned (.tuple #[vK (runF y v j 1 (fun k => gval (y.gad f) (argOf y v j 1 k))), .int .i64 0]) ∧ Vs w' yb (cirL f y) ∧ Vs w' fb [.int .u8 f] ∧
        (∃ g cp, Vs w' wb [.slice (some ⟨g, 0, none⟩) y.calls cp] ∧ RowE w' g 0 (esK (ansL (fun k => gval (y.gad f) (argOf y v j 1 k)) y.calls)) ∧ w.heap.size ≤ g ∧ g < w'.heap.size) ∧ Exc (fun q => q = yb ∨ q = fb ∨ q = wb) w.heap.size w w' := by
  have hnin := CK.nin_le hy
  have hjn : y.joint ≤ 512 := by cases y <;> simp only [CK.joint] <;> (try simp only [CK.calls] at hcl ⊢) <;> omega
  have hst : St (InvOne (cirL f y) f (fun k => gval (y.gad f) (argOf y v j 1 k)) yb fb wb 0) (fun q => q = yb ∨ q = fb ∨ q = wb) w := InvOne.st ⟨⟨.inr (.inl rfl), .inl rfl, .inr (.inr rfl)⟩, ⟨hyb, hfb⟩, none, 0, hwb, World.ownsRow_nil _ _ _ _, fun q hq => by cases hq⟩ (fun q hq => by
    rcases hq with rfl | rfl | rfl
    · exact hyb.lt
    · exact hfb.lt
    · exact hwb.lt)
  refine (closure_go hf y hy hcl 1 1 (.inl rfl) (by rw [nK_one, kinv_one]) v j _ _ _ _ (asked_one hf y hy hcl v j 1 yb fb wb n1 n2) hl hjl (.slice (some ⟨gv, 0, none⟩) y.nin y.nin) (.slice (some ⟨gj, 0, none⟩) y.joint y.joint) yb jb _ w
    (SlX.of hl (Nat.le_refl _) (by omega) hV.lt (by show ¬ (_ ∨ _ ∨ _); omega) hV.rowE) (SlX.of hjl (Nat.le_refl _) (by omega) hJ.lt (by show ¬ (_ ∨ _ ∨ _); omega) hJ.rowE) hyb hjb hst).mono ?_
  rintro e w' ⟨rfl, D', hs, hT, hE⟩
  obtain ⟨_, ⟨g1, g2⟩, A, cp, g3, g4, g5⟩ := hs.here
  rw [ansL_length] at g3 g4 g5
  obtain ⟨g, rfl, hr, hlt⟩ := own_row (xs := esK (ansL (fun k => gval (y.gad f) (argOf y v j 1 k)) y.calls)) g4 (CK.calls_pos hy) (by rw [esK_length, ansL_length]) (esK_ok _)
  refine ⟨rfl, g1, g2, ⟨g, cp, g3, hr, ?_, hlt⟩, hE⟩
  exact (hT g (g5 g rfl).1).resolve_left fun h => (g5 g rfl).2 h

theorem sh_two (y : CK) (hy : y.ok) (hcl : y.calls ≤ 511) (v j : KL f) (hl : v.length = y.nin) (hjl : j.length = y.joint) (gv gj yb fb ab pb jb : Nat) (w0 : World) (A : Option Addr) (cp0 : Nat) (ys : List E) (rb : Option Nat) (hok : ∀ e, e ∈ ys → okE e) (hrb : ∀ q, rb = some q → q < w0.heap.size) (hA : 0 < ys.length → ∃ b o, A = some ⟨b, o, none⟩ ∧ rb = some b ∧ RowE w0 b o ys) (h60 : ys.length ≤ 60)
    (hfb0 : w0.heap.size ≤ fb) (hab0 : w0.heap.size ≤ ab) (hpb0 : w0.heap.size ≤ pb) (n1 : fb ≠ pb) (n2 : ab ≠ pb) (w : World) (hw0 : w0.heap.size ≤ w.heap.size) (hrw : ∀ q, rb = some q → w.heap[q]? = w0.heap[q]?) (hV : BlkE w gv (esK v)) (hJ : BlkE w gj (esK j)) (nv : gv ≠ fb ∧ gv ≠ ab ∧ gv ≠ pb ∧ w0.heap.size ≤ gv) (nj : gj ≠ fb ∧ gj ≠ ab ∧ gj ≠ pb ∧ w0.heap.size ≤ gj)
    (hyb : Vs w yb (cirL f y)) (hfb : Vs w fb [.int .u8 f]) (hab : Vs w ab [.slice A ys.length cp0]) (hpb : Vs w pb [.slice none 0 0]) (hjb : Vs w jb [.slice (some ⟨gj, 0, none⟩) y.joint y.joint]) :
    Calls Try.prog 77 #[.slice (some ⟨gv, 0, none⟩) y.nin y.nin, .int .i64 2, .func (.func 80) #[] #[.pointer (some ⟨ab, 0, none⟩), .pointer (some ⟨fb, 0, none⟩), .pointer (some ⟨pb, 0, none⟩)], .pointer (some ⟨yb, 0, none⟩), .pointer (some ⟨jb, 0, none⟩)] w fun e w' =>
      e = .returned (.tuple #[vK (runF y v j (kinv (nK f 2)) (ansTwo f ys)), .int .i64 0]) ∧ Vs w' fb [.int .u8 f] ∧
        (∃ g cp, Vs w' pb [.slice (some ⟨g, 0, none⟩) y.calls cp] ∧ RowE w' g 0 (esK (ansL (ansTwo f ys) y.calls)) ∧ w.heap.size ≤ g ∧ g < w'.heap.size) ∧ (∀ q, rb = some q → w'.heap[q]? = w0.heap[q]?) ∧ Exc (FxTwo fb ab pb rb) w.heap.size w w' := by
  have hnin := CK.nin_le hy
  have hjn : y.joint ≤ 512 := by cases y <;> simp only [CK.joint] <;> (try simp only [CK.calls] at hcl ⊢) <;> omega
  have hst : St (InvTwo f w0 (.slice A ys.length cp0) rb ys fb ab pb 0) (FxTwo fb ab pb rb) w := InvTwo.st ⟨⟨.inl rfl, .inr (.inl rfl), .inr (.inr (.inl rfl))⟩, ⟨hfb, hab⟩, fun q hq => ⟨.inr (.inr (.inr hq)), hrw q hq⟩, none, 0, hpb, World.ownsRow_nil _ _ _ _, fun q hq => by cases hq⟩ (fun q hq => by
    rcases hq with rfl | rfl | rfl | hq
    · exact hfb.lt
    · exact hab.lt
    · exact hpb.lt
    · exact Nat.lt_of_lt_of_le (hrb q hq) hw0)
  have hno : ∀ g, (g ≠ fb ∧ g ≠ ab ∧ g ≠ pb ∧ w0.heap.size ≤ g) → ¬ FxTwo fb ab pb rb g := fun g hg h => by
    rcases h with h | h | h | h
    · exact hg.1 h
    · exact hg.2.1 h
    · exact hg.2.2.1 h
    · have := hrb g h
      omega
  refine (closure_go hf y hy hcl (kinv (nK f 2)) 2 (.inr rfl) rfl v j _ _ _ _ (asked_two hf y hcl v j (kinv (nK f 2)) w0 A cp0 ys rb hok hrb hA h60 fb ab pb hfb0 hab0 hpb0 n1 n2) hl hjl (.slice (some ⟨gv, 0, none⟩) y.nin y.nin) (.slice (some ⟨gj, 0, none⟩) y.joint y.joint) yb jb _ w
    (SlX.of hl (Nat.le_refl _) (by omega) hV.lt (hno gv nv) hV.rowE) (SlX.of hjl (Nat.le_refl _) (by omega) hJ.lt (hno gj nj) hJ.rowE) hyb hjb hst).mono ?_
  rintro e w' ⟨rfl, D', hs, hT, hE⟩
  obtain ⟨_, ⟨g1, g2⟩, gr, A', cp, g3, g4, g5⟩ := hs.here
  rw [ansL_length] at g3 g4 g5
  obtain ⟨g, rfl, hr, hlt⟩ := own_row (xs := esK (ansL (ansTwo f ys) y.calls)) g4 (CK.calls_pos hy) (by rw [esK_length, ansL_length]) (esK_ok _)
  refine ⟨rfl, g1, ⟨g, cp, g3, hr, ?_, hlt⟩, fun q hq => (gr q hq).2, hE⟩
  exact (hT g (g5 g rfl).1).resolve_left fun h => (g5 g rfl).2 h

theorem sh_three (y : CK) (hy : y.ok) (hcl : y.calls ≤ 511) (v j : KL f) (hl : v.length = y.nin) (hjl : j.length = y.joint) (gv gj yb fb wb pb jb g1 c1 g2 c2 : Nat) (wl pl : KL f) (hwl : wl.length = y.calls) (hpl : pl.length = y.calls) (w : World) (hV : BlkE w gv (esK v)) (hJ : BlkE w gj (esK j))
    (nv : gv ≠ fb ∧ gv ≠ wb ∧ gv ≠ pb ∧ gv ≠ g1 ∧ gv ≠ g2) (nj : gj ≠ fb ∧ gj ≠ wb ∧ gj ≠ pb ∧ gj ≠ g1 ∧ gj ≠ g2) (hyb : Vs w yb (cirL f y)) (hfb : Vs w fb [.int .u8 f]) (hwb : Vs w wb [.slice (some ⟨g1, 0, none⟩) y.calls c1]) (hpb : Vs w pb [.slice (some ⟨g2, 0, none⟩) y.calls c2]) (hjb : Vs w jb [.slice (some ⟨gj, 0, none⟩) y.joint y.joint])
    (hg1 : g1 < w.heap.size) (hr1 : RowE w g1 0 (esK wl)) (hg2 : g2 < w.heap.size) (hr2 : RowE w g2 0 (esK pl)) :
    Calls Try.prog 77 #[.slice (some ⟨gv, 0, none⟩) y.nin y.nin, .int .i64 2, .func (.func 81) #[] #[.pointer (some ⟨fb, 0, none⟩), .pointer (some ⟨wb, 0, none⟩), .pointer (some ⟨pb, 0, none⟩)], .pointer (some ⟨yb, 0, none⟩), .pointer (some ⟨jb, 0, none⟩)] w fun e w' =>
      e = .returned (.tuple #[vK (runF y v j (kinv (nK f 2)) (fun k => wl.getD k 0 - pl.getD k 0)), .int .i64 0]) ∧ Vs w' fb [.int .u8 f] ∧ Exc (fun q => q = fb ∨ q = wb ∨ q = pb ∨ q = g1 ∨ q = g2) w.heap.size w w' := by
  have hnin := CK.nin_le hy
  have hjn : y.joint ≤ 512 := by cases y <;> simp only [CK.joint] <;> (try simp only [CK.calls] at hcl ⊢) <;> omega
  have hst : St (InvThree (f := f) fb wb pb y.calls wl pl (some ⟨g1, 0, none⟩) (some ⟨g2, 0, none⟩) c1 c2 0) (fun q => q = fb ∨ q = wb ∨ q = pb ∨ q = g1 ∨ q = g2) w := InvThree.st ⟨⟨.inl rfl, .inr (.inl rfl), .inr (.inr (.inl rfl))⟩, ⟨hfb, hwb, hpb⟩, ⟨g1, 0, rfl, .inr (.inr (.inr (.inl rfl))), hg1, hr1⟩, g2, 0, rfl, .inr (.inr (.inr (.inr rfl))), hg2, hr2⟩ (fun q hq => by
    rcases hq with rfl | rfl | rfl | rfl | rfl
    · exact hfb.lt
    · exact hwb.lt
    · exact hpb.lt
    · exact hg1
    · exact hg2)
  refine (closure_go hf y hy hcl (kinv (nK f 2)) 2 (.inr rfl) rfl v j _ _ _ _ (asked_three hf y v j (kinv (nK f 2)) fb wb pb y.calls wl pl hwl hpl (Nat.le_refl _) (some ⟨g1, 0, none⟩) (some ⟨g2, 0, none⟩) c1 c2) hl hjl (.slice (some ⟨gv, 0, none⟩) y.nin y.nin) (.slice (some ⟨gj, 0, none⟩) y.joint y.joint) yb jb _ w
    (SlX.of hl (Nat.le_refl _) (by omega) hV.lt (by show ¬ (_ ∨ _ ∨ _ ∨ _ ∨ _); omega) hV.rowE) (SlX.of hjl (Nat.le_refl _) (by omega) hJ.lt (by show ¬ (_ ∨ _ ∨ _ ∨ _ ∨ _); omega) hJ.rowE) hyb hjb hst).mono ?_
  rintro e w' ⟨rfl, D', hs, hT, hE⟩
  exact ⟨rfl, hs.here.2.1.1, hE⟩
end

end Go.Proofs.Ytiphahbeedeebaa
