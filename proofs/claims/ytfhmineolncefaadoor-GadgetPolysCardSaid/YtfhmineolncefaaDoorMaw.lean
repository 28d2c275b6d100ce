/-
  ROWS OF ELEMENTS, WHATEVER THEIR LIMBS, THAT ARE WRITTEN IN PLACE.
-/
/-
  WALK: ntt.run of whatever limbs: a row comes back.
-/
/-
  WALKS, OF WHATEVER LIMBS: ntt.Values, ntt.Coefs.
-/
/-
  WALKS: ntt.Next of any number; what ntt.Points, Values and Coefs say of what may not be.
-/
import Derived.Test.YtfhmineolncefaaDoorMan
import Derived.Test.YtfhmineolncefaaDoorMag
import Derived.Test.YtfhmineolncefaaDoorMaq
import Derived.Test.YtfhmineolncefaaDoorMap
import Derived.Test.YtfhmineolncefaaDoorMar
namespace Go.Proofs.YtfhmineolncefaaDoor
open Go.RowKit Fm
set_option linter.unusedVariables false
set_option maxRecDepth 100000

def OkL (l : List E) : Prop := ∀ e, e ∈ l → okE e
theorem OkL.at {l : List E} (h : OkL l) {i : Nat} {x : E} (hx : l[i]? = some x) : okE x := h x (List.mem_of_getElem? hx)
theorem OkL.set {l : List E} (h : OkL l) (i : Nat) {x : E} (hx : okE x) : OkL (l.set i x) := fun e he => by
  rcases List.mem_or_eq_of_mem_set he with h1 | rfl
  · exact h e h1
  · exact hx
theorem OkL.take {l : List E} (h : OkL l) (n : Nat) : OkL (l.take n) := fun e he => h e (List.mem_of_mem_take he)
theorem OkL.append {l m : List E} (h : OkL l) (h2 : OkL m) : OkL (l ++ m) := fun e he => by
  rcases List.mem_append.1 he with h1 | h1
  · exact h e h1
  · exact h2 e h1
theorem okE_zero : okE (0, 0) := ⟨by decide, by decide, by decide, by decide⟩
theorem OkL.zeros (n : Nat) : OkL (List.replicate n (0, 0)) := fun e he => by
  rw [List.eq_of_mem_replicate he]
  exact okE_zero
theorem okE_K {f : Nat} (x : Fin (Pm f)) : okE (lo x, hi x) := okE_eK x
theorem OkL.one {x : E} (h : okE x) : OkL [x] := fun e he => by
  rw [List.mem_singleton.1 he]
  exact h

/-- block g holds the elements l, from its head on, and may be written -/
def RwE (w : World) (g : Nat) (l : List E) : Prop := Vs w g (cellsE l)
theorem RwE.call {w w' : World} {g : Nat} {l : List E} (h : RwE w g l) (hb : Below w.heap.size w w') : RwE w' g l := Vs.call h hb
theorem RwE.alloc {w : World} {g : Nat} {l : List E} (h : RwE w g l) (o : Obj) : RwE (w.alloc o) g l := Vs.alloc h o
theorem RwE.drew {w : World} {g : Nat} {l : List E} (h : RwE w g l) : RwE w.drew g l := Vs.drew h
theorem RwE.far {w : World} {g : Nat} {l : List E} (h : RwE w g l) {p : Addr} (hp : p.block ≠ g) (x : Value) : RwE (w.setCell p x) g l := Vs.far h hp x
theorem RwE.at {w : World} {g : Nat} {l : List E} (h : RwE w g l) {i : Nat} {x : E} (hx : l[i]? = some x) :
    w.cell? ⟨g, i * 2, none⟩ = some (.int .u64 x.1) ∧ w.cell? ⟨g, i * 2 + 1, none⟩ = some (.int .u64 x.2) := by
  obtain ⟨h1, h2⟩ := cellsE_at l i _ hx
  exact ⟨h.cell _ _ h1, h.cell _ _ h2⟩
theorem RwE.frz {w : World} {g : Nat} {l : List E} (h : RwE w g l) {i : Nat} (hi : i < l.length) : w.frozen? ⟨g, i * 2, none⟩ = false ∧ w.frozen? ⟨g, i * 2 + 1, none⟩ = false :=
  ⟨Vs.frz h _ (by rw [length_cellsE]; omega), Vs.frz h _ (by rw [length_cellsE]; omega)⟩
theorem RwE.set {w : World} {g : Nat} {l : List E} (h : RwE w g l) (i : Nat) (hi : i < l.length) (x0 x1 : Int) :
    RwE ((w.setCell ⟨g, i * 2, none⟩ (.int .u64 x0)).setCell ⟨g, i * 2 + 1, none⟩ (.int .u64 x1)) g (l.set i (x0, x1)) := by
  have h2 := Vs.put (Vs.put h (i * 2) (by rw [length_cellsE]; omega) (.int .u64 x0)) (i * 2 + 1) (by rw [List.length_set, length_cellsE]; omega) (.int .u64 x1)
  unfold RwE
  rw [← cellsE_set]
  exact h2
theorem RwE.row {w : World} {g : Nat} {l : List E} (h : RwE w g l) : RowE w g 0 l := fun i e hi => by
  obtain ⟨h1, h2⟩ := cellsE_at l i e hi
  rw [Nat.zero_add]
  exact ⟨h.cell _ _ h1, h.cell _ _ h2⟩
theorem RwE.sl {w : World} {g n c : Nat} {l : List E} (h : RwE w g l) (hl : l.length = n) (hc : n ≤ c) (hm : c ≤ 9223372036854775807) (ok : OkL l) : SlE w w.heap.size (.slice (some ⟨g, 0, none⟩) n c) l := by
  subst hl
  exact ⟨⟨_, c, rfl, hc, hm, fun _ => ⟨g, 0, rfl, h.lt, h.row⟩⟩, ok⟩
theorem BlkE.rwE {w : World} {g : Nat} {l : List E} (h : BlkE w g l) : RwE w g l :=
  ⟨fun i v hi => (h.cell i).trans hi, fun i _ => h.frozen i, h.lt⟩
theorem own_rwE {w : World} {base g n c : Nat} {l : List E} (h : w.ownsRow base 28 2 (.slice (some ⟨g, 0, none⟩) n c) n (cellsE l)) : RwE w g l ∧ base ≤ g ∧ n ≤ c ∧ c ≤ 9223372036854775807 ∧ l.length = n := by
  have hl := h.1
  rw [length_cellsE] at hl
  rcases h.2 with ⟨hv, _⟩ | ⟨g', cap, cur, hv, hb, hg, hnc, hcm, hcs, ht⟩
  · cases hv
  · injection hv with e1 e2 e3
    injection e1 with e1
    injection e1 with e1
    subst e1
    subst e3
    refine ⟨⟨fun i v hi => ?_, fun i hi => ?_, ?_⟩, hb, hnc, hcm, by omega⟩
    · rw [← ht] at hi
      have hlt : i < n * 2 := by
        obtain ⟨h1, _⟩ := List.getElem?_eq_some_iff.1 hi
        rw [List.length_take] at h1
        omega
      rw [List.getElem?_take_of_lt hlt] at hi
      simp [World.cell?, hg]
      simpa using hi
    · simp [World.frozen?, hg]
    · exact (Array.getElem?_eq_some_iff.1 hg).1
theorem own_casesE {w : World} {base : Nat} {v : Value} {l : List E} (h : w.ownsRow base 28 2 v l.length (cellsE l)) :
    (v = .slice none 0 0 ∧ l = []) ∨ ∃ g c, v = .slice (some ⟨g, 0, none⟩) l.length c ∧ RwE w g l ∧ base ≤ g ∧ l.length ≤ c ∧ c ≤ 9223372036854775807 := by
  rcases h.2 with ⟨hv, hn⟩ | ⟨g, cap, cur, hv, _⟩
  · exact .inl ⟨hv, List.length_eq_zero_iff.1 hn⟩
  · subst hv
    obtain ⟨h1, h2, h3, h4, _⟩ := own_rwE h
    exact .inr ⟨g, cap, rfl, h1, h2, h3, h4⟩
theorem SlE.rowOf {w : World} {B n c : Nat} {A : Option Addr} {l : List E} (h : SlE w B (.slice A n c) l) (hn : 0 < l.length) : ∃ b o, A = some ⟨b, o, none⟩ ∧ b < B ∧ RowE w b o l := by
  obtain ⟨⟨A', c', e, _, _, h3⟩, _⟩ := h
  injection e with e1 _ _
  subst e1
  exact h3 hn
theorem SlE.shape {w : World} {B : Nat} {v : Value} {l : List E} (h : SlE w B v l) : ∃ A c, v = .slice A l.length c ∧ l.length ≤ c ∧ c ≤ 9223372036854775807 := by
  obtain ⟨⟨A, c, e, h1, h2, _⟩, _⟩ := h
  exact ⟨A, c, e, h1, h2⟩

/-- a row of so many elements comes back -/
def RetBlkE (n : Nat) (w : World) (e : Ending) (w' : World) : Prop := ∃ g S, e = .returned (.slice (some ⟨g, 0, none⟩) n n) ∧ RwE w' g S ∧ S.length = n ∧ OkL S ∧ w.heap.size ≤ g ∧ Below w.heap.size w w'
def RetBlkE0 (n : Nat) (w : World) (e : Ending) (w' : World) : Prop := ∃ g S, e = .returned (.tuple #[.slice (some ⟨g, 0, none⟩) n n, .int .i64 0]) ∧ RwE w' g S ∧ S.length = n ∧ OkL S ∧ w.heap.size ≤ g ∧ Below w.heap.size w w'
/-- a row of the call's own, of no more than so many -/
def RetOwnE (n : Nat) (w : World) (e : Ending) (w' : World) : Prop := ∃ (v : Value) (S : List E), e = .returned v ∧ w'.ownsRow w.heap.size 28 2 v S.length (cellsE S) ∧ S.length ≤ n ∧ OkL S ∧ Below w.heap.size w w'

section
variable {f : Nat} (hf : IsF f)
include hf
theorem field_MulE {a0 a1 b0 b1 : Int} (ha : okE (a0, a1)) (hb : okE (b0, b1)) (w : World) : Calls Tryd.prog 31 #[.int .u8 f, .agg #[.int .u64 a0, .int .u64 a1], .agg #[.int .u64 b0, .int .u64 b1]] w (RetK (kL f a0 a1 * kL f b0 b1) w) :=
  field_MulL hf a0 a1 b0 b1 w ha.1 ha.2.1 ha.2.2.1 ha.2.2.2 hb.1 hb.2.1 hb.2.2.1 hb.2.2.2
theorem field_AddE {a0 a1 b0 b1 : Int} (ha : okE (a0, a1)) (hb : okE (b0, b1)) (w : World) : Calls Tryd.prog 63 #[.int .u8 f, .agg #[.int .u64 a0, .int .u64 a1], .agg #[.int .u64 b0, .int .u64 b1]] w (RetK (kL f a0 a1 + kL f b0 b1) w) :=
  field_AddL hf a0 a1 b0 b1 w ha.1 ha.2.1 ha.2.2.1 ha.2.2.2 hb.1 hb.2.1 hb.2.2.1 hb.2.2.2
theorem field_SubE {a0 a1 b0 b1 : Int} (ha : okE (a0, a1)) (hb : okE (b0, b1)) (w : World) : Calls Tryd.prog 72 #[.int .u8 f, .agg #[.int .u64 a0, .int .u64 a1], .agg #[.int .u64 b0, .int .u64 b1]] w (RetK (kL f a0 a1 - kL f b0 b1) w) :=
  field_SubL hf a0 a1 b0 b1 w ha.1 ha.2.1 ha.2.2.1 ha.2.2.2 hb.1 hb.2.1 hb.2.2.1 hb.2.2.2
end

end Go.Proofs.YtfhmineolncefaaDoor

namespace Go.Proofs.YtfhmineolncefaaDoor
open Go.RowKit Fm
set_option linter.unusedVariables false
set_option maxRecDepth 100000

section
variable {f : Nat}
structure RunTE (w : World) (r : Fin (Pm f)) (x0 x1 : Int) (y : Fin (Pm f)) (xa ya gp : Nat) (P : KL f) (wz : World) : Prop where
  bl : Below w.heap.size w wz
  vr : V2 wz w.heap.size (.int .u64 (lo r)) (.int .u64 (hi r))
  vx : V2 wz xa (.int .u64 x0) (.int .u64 x1)
  vy : V2 wz ya (.int .u64 (lo y)) (.int .u64 (hi y))
  rp : RwK wz gp P
structure RunSE (w : World) (r : Fin (Pm f)) (x0 x1 : Int) (y : Fin (Pm f)) (xa ya gp : Nat) (P : KL f) (g : Nat) (l : List E) (wz : World) : Prop where
  t : RunTE w r x0 x1 y xa ya gp P wz
  rw : RwE wz g l
theorem RunTE.clo (w : World) (r : Fin (Pm f)) (x0 x1 : Int) (y : Fin (Pm f)) (xa ya gp : Nat) (P : KL f) : Clo (RunTE w r x0 x1 y xa ya gp P) := fun _ _ h hb => ⟨bl_call h.bl (Nat.le_refl _) hb, h.vr.call hb, h.vx.call hb, h.vy.call hb, h.rp.call hb⟩
theorem RunSE.clo (w : World) (r : Fin (Pm f)) (x0 x1 : Int) (y : Fin (Pm f)) (xa ya gp : Nat) (P : KL f) (g : Nat) (l : List E) : Clo (RunSE w r x0 x1 y xa ya gp P g l) := fun _ _ h hb => ⟨RunTE.clo w r x0 x1 y xa ya gp P _ _ h.t hb, h.rw.call hb⟩
theorem RunSE.store {w wz : World} {r : Fin (Pm f)} {x0 x1 : Int} {y : Fin (Pm f)} {xa ya gp g : Nat} {P : KL f} {l : List E} (h : RunSE w r x0 x1 y xa ya gp P g l wz) (q : Nat) (hq : q < l.length) (z0 z1 : Int) (hg : w.heap.size < g) (h1 : g ≠ xa) (h2 : g ≠ ya) (h3 : g ≠ gp) :
    RunSE w r x0 x1 y xa ya gp P g (l.set q (z0, z1)) ((wz.setCell ⟨g, q * 2, none⟩ (.int .u64 z0)).setCell ⟨g, q * 2 + 1, none⟩ (.int .u64 z1)) :=
  ⟨⟨bl_set (bl_set h.t.bl (by dsimp only; omega) _) (by dsimp only; omega) _, (h.t.vr.setOther (by dsimp only; omega) _).setOther (by dsimp only; omega) _, (h.t.vx.setOther h1 _).setOther h1 _, (h.t.vy.setOther h2 _).setOther h2 _, (h.t.rp.far h3 _).far h3 _⟩, h.rw.set q hq z0 z1⟩
end

section
variable {f : Nat} (hf : IsF f)
include hf

set_option maxHeartbeats 16000000 in
theorem ntt_run_E (L : Nat) (hL : L ≤ 10) (vl : Value) (l : List E) (hl : l.length = 2 ^ L) (r : Fin (Pm f)) (w : World) (hs : SlE w w.heap.size vl l) :
    Calls Tryd.prog 61 #[.int .u8 f, vl, vK r, .int .i64 L] w (RetBlkE (2 ^ L) w) := by
  have hfb0 : (1 : Int) ≤ (f : Int) := by rcases hf.or with rfl | rfl <;> omega
  have hfb1 : (f : Int) ≤ 2 := by rcases hf.or with rfl | rfl <;> omega
  have HMU := Lib.hid (fun x y wz => field_MulK hf x y wz)
  have HPW := Lib.hid (fun x n hn wz => field_Powers hf x n hn wz)
  have HTU := Lib.hid (fun (i k : Nat) h1 h2 h3 wz => ntt_turned i k h1 h2 h3 wz)
  have hN0 : 0 < 2 ^ L := Nat.two_pow_pos L
  have hN1 : 2 ^ L ≤ 2 ^ 10 := Nat.pow_le_pow_right (by omega) hL
  have HRL := Lib.hid (fun k => rev_lt L k)
  have hmk := make_elem (2 ^ L) (by omega)
  have hok : OkL l := hs.2
  have HOK := Lib.hid hok
  obtain ⟨⟨A, c, rfl, hc, hcm, hA⟩, _⟩ := hs
  obtain ⟨b, o, rfl, hB, hrow⟩ := hA (by omega)
  have HAT : Hid (∀ k, k < 2 ^ L → ∃ x, l[k]? = some x) := fun k hk => ⟨_, List.getElem?_eq_getElem (by omega)⟩
  rw [hl]
  have HPN : Hid (∀ s, s < L → 2 ^ s ≤ 512 ∧ 2 ^ (L - (s + 1)) * 2 ^ (s + 1) = 2 ^ L ∧ 2 ^ (s + 1) = 2 * 2 ^ s ∧ 1 ≤ 2 ^ s) := fun s hs => by
    have h1 : 2 ^ s ≤ 2 ^ 9 := Nat.pow_le_pow_right (by omega) (by omega)
    exact ⟨by omega, by rw [← Nat.pow_add]; congr 1; omega, by rw [Nat.pow_succ, Nat.mul_comm], Nat.two_pow_pos s⟩
  obtain ⟨n, hn⟩ : ∃ n, 2 ^ L = n := ⟨_, rfl⟩
  have HN := Lib.hid hn
  have HRW := Lib.hid hrow
  clear hA hrow hok
  rw [hl, hn] at hc
  rw [hn] at hmk hN0 hN1 ⊢
  clear hn hl
  go_enter Tryd.func61, Tryd.ntmps61
  go_upto_region 1 with fail
  have q0 := V2.new w (.int .u64 (lo r)) (.int .u64 (hi r)) 28
  have hb00 : Below w.heap.size w (w.alloc (.cells #[(.int .u64 (lo r)), (.int .u64 (hi r))] 28)) := by repeat (first | exact Below.refl _ _ | with_reducible assumption | (refine bl_alloc ?_ (Nat.le_refl _) _))
  have hsz : w.heap.size + 1 ≤ (w.alloc (.cells #[(.int .u64 (lo r)), (.int .u64 (hi r))] 28)).heap.size := by simp only [World.size_alloc]; omega
  generalize (w.alloc (.cells #[(.int .u64 (lo r)), (.int .u64 (hi r))] 28)) = w1 at q0 hb00 hsz ⊢
  go_upto_region 2 with fail
  obtain ⟨g, hg⟩ : ∃ z, w1.heap.size = z := ⟨_, rfl⟩
  have HB0 : RwE (w1.alloc (.cells (cellsE (List.replicate n (0, 0))).toArray 28)) g (List.replicate n (0, 0)) := by
    have h : BlkE (w1.alloc (.cells (cellsE (List.replicate n (0, 0))).toArray 28)) w1.heap.size (List.replicate n (0, 0)) := heap_alloc_new w1 _
    have h2 := h.rwE
    rw [hg] at h2
    exact h2
  have hgw : w.heap.size + 1 ≤ g := by omega
  have hga : g < (w1.alloc (.cells (cellsE (List.replicate n (0, 0))).toArray 28)).heap.size := by rw [World.size_alloc]; omega
  replace q0 := q0.alloc (.cells (cellsE (List.replicate n (0, 0))).toArray 28)
  replace hb00 : Below w.heap.size w (w1.alloc (.cells (cellsE (List.replicate n (0, 0))).toArray 28)) := by repeat (first | exact Below.refl _ _ | with_reducible assumption | (refine bl_alloc ?_ (Nat.le_refl _) _) | (refine bl_set ?_ (by dsimp only; omega) _) | (refine Below.drew ?_) | (refine bl_drewN ?_ _) | (refine bl_call ?_ (Nat.le_refl _) (by assumption)))
  simp only [hg]
  generalize w1.alloc (.cells (cellsE (List.replicate n (0, 0))).toArray 28) = w2 at HB0 hga q0 hb00 ⊢
  have HL0 : Hid ((List.replicate n ((0, 0) : E)).length = n ∧ OkL (List.replicate n (0, 0))) := ⟨List.length_replicate, OkL.zeros n⟩
  generalize List.replicate n ((0, 0) : E) = S0 at HB0 HL0
  clear hmk hg hsz
  go_wp2_with fail
  go_loopw [27] (fun i wr => ∃ (k : Nat) (S : List E), k ≤ n ∧ i = .int .i64 k ∧ RwE wr g S ∧ Hid (S.length = n ∧ OkL S) ∧ V2 wr w.heap.size (.int .u64 (lo r)) (.int .u64 (hi r)) ∧ Below w.heap.size w wr ∧ g < wr.heap.size) (fun i _ => n - (intOf i).toNat)
  case atStart => exact ⟨0, S0, Nat.zero_le _, rfl, HB0, HL0, q0, hb00, hga⟩
  case round =>
    clear HB0 q0 hb00 hga HL0 S0
    obtain ⟨k, S, hk, rfl, HR, HS, q0, hb00, hga⟩ := hrel
    by_cases hlt : k < n
    · obtain ⟨⟨x0, x1⟩, hx⟩ := HAT.out k (by rw [HN.out]; exact hlt)
      have hob := HRW.out.below hb00 hB
      obtain ⟨c0, c1⟩ := hob k _ hx
      dsimp only at c0 c1
      have HX : Hid (okE (x0, x1)) := HOK.out.at hx
      have HBL : Hid (b < wr.heap.size) := Nat.lt_of_lt_of_le hB hb00.size
      clear hx hob
      have hqn : rev L k < n := by have := HRL.out k; rwa [HN.out] at this
      have HT : Hid (L = 0 ∨ ∀ wz, Calls Tryd.prog 83 #[.int .i64 k, .int .i64 L] wz (RetI (rev L k) wz)) := by
        rcases Nat.eq_zero_or_pos L with h | h
        · exact .inl h
        · exact .inr fun wz => HTU.out k L hL h (by rw [HN.out]; exact hlt) wz
      have HZ0 : Hid (L = 0 → rev L k = 0) := fun h => by rw [h]; rfl
      generalize rev L k = q at *
      go_upto_region 5 with fail
      have z0 := V2.new wr (.int .u64 x0) (.int .u64 x1) 28
      have hbA : Below wr.heap.size wr (wr.alloc (.cells #[.int .u64 x0, .int .u64 x1] 28)) := by repeat (first | exact Below.refl _ _ | with_reducible assumption | (refine bl_alloc ?_ (Nat.le_refl _) _))
      replace hb00 := bl_call hb00 (Nat.le_refl _) hbA
      replace q0 := q0.call hbA
      replace HR := HR.call hbA
      clear hbA
      generalize wr.alloc (.cells #[.int .u64 x0, .int .u64 x1] 28) = w3 at hb00 q0 HR z0 ⊢
      obtain ⟨xb, hxb⟩ : ∃ z, wr.heap.size = z := ⟨_, rfl⟩
      rw [hxb] at z0
      simp only [hxb]
      have hxg : g < xb := by omega
      clear hxb c0 c1 HBL hga
      rcases Nat.eq_zero_or_pos L with hL0 | hL0
      · obtain rfl : q = 0 := HZ0.out hL0
        have t1 : ¬ (0 < L) := by omega
        have t2 : decide (0 < L) = false := by simpa using t1
        clear HT HZ0 HTU HRL hL0
        obtain ⟨u9, hu9⟩ : ∃ u, S[0]? = some u := ⟨_, List.getElem?_eq_getElem (by rw [HS.out.1]; exact hqn)⟩
        obtain ⟨c0, c1⟩ := HR.at hu9
        obtain ⟨c2, c3⟩ := HR.frz (i := 0) (by rw [HS.out.1]; exact hqn)
        have hgl := HR.lt
        clear hu9
        obtain ⟨z00, z01, z02, z03, z04⟩ := V2.mk z0.c0 z0.c1 z0.f0 z0.f1 z0.lt
        go_wp2_with fail
        go_roundw
        case rel =>
          have h := HR.set 0 (by rw [HS.out.1]; exact hqn) x0 x1
          exact ⟨k + 1, _, by omega, by go_num, h, ⟨by rw [List.length_set]; exact HS.out.1, HS.out.2.set _ HX.out⟩, V2.setOther (V2.setOther q0 (by dsimp only; omega) _) (by dsimp only; omega) _, by repeat (first | exact Below.refl _ _ | with_reducible assumption | (refine bl_alloc ?_ (Nat.le_refl _) _) | (refine bl_set ?_ (by dsimp only; omega) _) | (refine Below.drew ?_) | (refine bl_drewN ?_ _) | (refine bl_call ?_ (Nat.le_refl _) (by assumption))), by have := HR.lt; simpa [World.setCell] using this⟩
        case measure => simp [intOf]; omega
      · have hT : ∀ wz, Calls Tryd.prog 83 #[.int .i64 k, .int .i64 L] wz (RetI q wz) := HT.out.resolve_left (by omega)
        have HT2 := Lib.hid hT
        clear HT hT HZ0 HTU
        go_wp2_with fail
        refine (HT2.out _).mono ?_
        rintro e w5 ⟨rfl, hb5⟩
        replace hb00 := bl_call hb00 (Nat.le_refl _) hb5
        replace q0 := q0.call hb5
        replace HR := HR.call hb5
        replace z0 := z0.call hb5
        obtain ⟨u9, hu9⟩ : ∃ u, S[q]? = some u := ⟨_, List.getElem?_eq_getElem (by rw [HS.out.1]; exact hqn)⟩
        obtain ⟨c0, c1⟩ := HR.at hu9
        obtain ⟨c2, c3⟩ := HR.frz (i := q) (by rw [HS.out.1]; exact hqn)
        have hgl := HR.lt
        clear hu9
        obtain ⟨z00, z01, z02, z03, z04⟩ := V2.mk z0.c0 z0.c1 z0.f0 z0.f1 z0.lt
        go_wp2_with fail
        go_roundw
        case rel =>
          have h := HR.set q (by rw [HS.out.1]; exact hqn) x0 x1
          exact ⟨k + 1, _, by omega, by go_num, h, ⟨by rw [List.length_set]; exact HS.out.1, HS.out.2.set _ HX.out⟩, V2.setOther (V2.setOther q0 (by dsimp only; omega) _) (by dsimp only; omega) _, by repeat (first | exact Below.refl _ _ | with_reducible assumption | (refine bl_alloc ?_ (Nat.le_refl _) _) | (refine bl_set ?_ (by dsimp only; omega) _) | (refine Below.drew ?_) | (refine bl_drewN ?_ _) | (refine bl_call ?_ (Nat.le_refl _) (by assumption))), by have := HR.lt; simpa [World.setCell] using this⟩
        case measure => simp [intOf]; omega
    · obtain rfl : k = n := by omega
      clear HAT HRW HTU HRL hk hlt hc hcm
      go_wp2_with fail
      go_loopw [13] (fun sv wr => ∃ (s : Nat) (S : List E), s ≤ L ∧ sv = .int .i64 ((s : Int) + 1) ∧ RwE wr g S ∧ Hid (S.length = k ∧ OkL S) ∧ V2 wr w.heap.size (.int .u64 (lo r)) (.int .u64 (hi r)) ∧ Below w.heap.size w wr ∧ g < wr.heap.size) (fun sv _ => L + 1 - (intOf sv).toNat)
      case atStart => exact ⟨0, S, Nat.zero_le _, rfl, HR, HS, q0, hb00, hga⟩
      case round =>
        clear HR q0 hb00 hga HS S
        obtain ⟨s, S, hs, rfl, HR, HS, q0, hb00, hga⟩ := hrel
        by_cases hlt : s < L
        · obtain ⟨hp1, hp2, hp3, hp4⟩ := HPN.out s hlt
          obtain ⟨t, ht⟩ : ∃ t, L - (s + 1) = t := ⟨_, rfl⟩
          have HST : Hid (s + 1 + t = L) := by show _ = _; omega
          have hsub : (L : Int) - ((s : Int) + 1) = (t : Int) := by omega
          have hs64 : (s : Int) < 64 := by omega
          have t1 : s + 1 ≤ L := by omega
          have t2 : decide ((s : Int) + 1 ≤ (L : Int)) = true := by simp; omega
          rw [ht] at hp2
          rw [HN.out, hp3] at hp2
          have hpi : (2 : Int) ^ s = ((2 ^ s : Nat) : Int) := by rw [Int.natCast_pow]; rfl
          clear hp3 ht
          obtain ⟨h, hh⟩ : ∃ h, 2 ^ s = h := ⟨_, rfl⟩
          obtain ⟨m, hm⟩ : ∃ m, 2 ^ t = m := ⟨_, rfl⟩
          rw [hh] at hp1 hp2 hp4 hpi
          rw [hm] at hp2
          have HP2 := Lib.hid hp2
          have hh1 : (1 : Int) ≤ (h : Int) := by omega
          have hh2 : (h : Int) ≤ 512 := by omega
          clear hm hp2 hh
          obtain ⟨q00, q01, q02, q03, q04⟩ := V2.mk q0.c0 q0.c1 q0.f0 q0.f1 q0.lt
          go_upto_region 15 with fail
          clear q00 q01 q02 q03 q04
          have z0 := V2.new wr (.int .u64 (lo r)) (.int .u64 (hi r)) 28
          have hbA : Below wr.heap.size wr (wr.alloc (.cells #[.int .u64 (lo r), .int .u64 (hi r)] 28)) := by repeat (first | exact Below.refl _ _ | with_reducible assumption | (refine bl_alloc ?_ (Nat.le_refl _) _))
          replace hb00 := bl_call hb00 (Nat.le_refl _) hbA
          replace q0 := q0.call hbA
          replace HR := HR.call hbA
          clear hbA
          generalize wr.alloc (.cells #[.int .u64 (lo r), .int .u64 (hi r)] 28) = w3 at hb00 q0 HR z0 ⊢
          obtain ⟨zb, hzb⟩ : ∃ z, wr.heap.size = z := ⟨_, rfl⟩
          rw [hzb] at z0
          simp only [hzb]
          have hzg : g < zb := by omega
          have hga3 : zb < w3.heap.size := z0.lt
          clear hzb hga
          go_wp2_with fail
          go_loopw [54] (fun jv wi => ∃ (j : Nat) (z : Fin (Pm f)), j ≤ t ∧ jv = .int .i64 j ∧ V2 wi zb (.int .u64 (lo z)) (.int .u64 (hi z)) ∧ RwE wi g S ∧ V2 wi w.heap.size (.int .u64 (lo r)) (.int .u64 (hi r)) ∧ Below w.heap.size w wi) (fun jv _ => t - (intOf jv).toNat)
          case atStart => exact ⟨0, r, Nat.zero_le _, rfl, z0, HR, q0, hb00⟩
          case round =>
            clear HR q0 hb00 z0 hga3
            obtain ⟨j, z, hj, rfl, z0, HR, q0, hb00⟩ := hrel
            by_cases hjt : j < t
            · skip
              obtain ⟨z00, z01, z02, z03, z04⟩ := V2.mk z0.c0 z0.c1 z0.f0 z0.f1 z0.lt
              go_upto_region 18 with (first
                | (go_at_call 31; refine (HMU.out _ _ _).mono ?_; rintro e w5 ⟨rfl, hb5⟩; replace hb00 := bl_call hb00 (Nat.le_refl _) hb5; replace q0 := q0.call hb5; replace HR := HR.call hb5; replace z0 := z0.call hb5; clear z00 z01 z02 z03 z04; clear hb5; obtain ⟨z00, z01, z02, z03, z04⟩ := V2.mk z0.c0 z0.c1 z0.f0 z0.f1 z0.lt))
              clear z00 z01 z02 z03 z04
              go_wp2_with fail
              go_roundw
              case rel => exact ⟨j + 1, _, by omega, by go_num, V2.set z0 _ _, (HR.far (by dsimp only; omega) _).far (by dsimp only; omega) _, V2.oth q0 (b := zb) (by omega) _ _, bl_st hb00 (by omega) _ _⟩
              case measure => simp [intOf]; omega
            · obtain rfl : j = t := by omega
              obtain ⟨z00, z01, z02, z03, z04⟩ := V2.mk z0.c0 z0.c1 z0.f0 z0.f1 z0.lt
              go_wp2_with fail
              clear z0 hjt hj
              refine (HPW.out z h (by omega) _).mono ?_
              rintro e w5 ⟨vp, rfl, hown, hb5⟩
              rcases own_cases hown with ⟨_, h0⟩ | ⟨gp, cp, rfl, HP, hgp, hcp, hcpm⟩
              · have h1 := congrArg List.length h0
                rw [pows_length] at h1
                simp at h1
                omega
              have hgp2 : g < gp := Nat.lt_of_lt_of_le HR.lt hgp
              have hgw2 : w.heap.size < gp := by omega
              rw [pows_length] at hcp ⊢
              clear z00 z01 z02 z03 z04
              replace hb00 := bl_call hb00 (Nat.le_refl _) hb5
              replace q0 := q0.call hb5
              replace HR := HR.call hb5
              clear hown hb5 hgp
              have HPA : Hid (∀ i, i < h → ∃ p, (pows z h)[i]? = some p) := fun i hi => ⟨_, List.getElem?_eq_getElem (by rw [pows_length]; exact hi)⟩
              generalize pows z h = Q at HPA HP
              go_wp2_with fail
              go_loopw [17] (fun av wi => ∃ (B : Nat) (S : List E), B ≤ m ∧ av = .int .i64 ((B * (2 * h) : Nat) : Int) ∧ RwE wi g S ∧ Hid (S.length = k ∧ OkL S) ∧ RwK wi gp Q ∧ V2 wi w.heap.size (.int .u64 (lo r)) (.int .u64 (hi r)) ∧ Below w.heap.size w wi) (fun av _ => k - (intOf av).toNat)
              case atStart => exact ⟨0, S, Nat.zero_le _, by rw [Nat.zero_mul]; rfl, HR, HS, HP, q0, hb00⟩
              case round =>
                clear HR HP q0 hb00 HS
                obtain ⟨B, S, hB', rfl, HR, HS, HP, q0, hb00⟩ := hrel
                by_cases hBm : B < m
                · have hAk : B * (2 * h) + 2 * h ≤ k := by
                    have := Nat.mul_le_mul_right (2 * h) hBm
                    rw [Nat.succ_mul, HP2.out] at this
                    exact this
                  have HBS : Hid ((B + 1) * (2 * h) = B * (2 * h) + 2 * h) := Nat.succ_mul _ _
                  obtain ⟨A0, hA0⟩ : ∃ A0, B * (2 * h) = A0 := ⟨_, rfl⟩
                  rw [hA0] at hAk HBS ⊢
                  have HA0 := Lib.hid hA0
                  clear hA0
                  have t5 : A0 < k := by omega
                  go_wp2_with fail
                  go_loopw [75] (fun iv wj => ∃ (i : Nat) (S : List E), i ≤ h ∧ iv = .int .i64 i ∧ RwE wj g S ∧ Hid (S.length = k ∧ OkL S) ∧ RwK wj gp Q ∧ V2 wj w.heap.size (.int .u64 (lo r)) (.int .u64 (hi r)) ∧ Below w.heap.size w wj) (fun iv _ => h - (intOf iv).toNat)
                  case atStart => exact ⟨0, S, Nat.zero_le _, rfl, HR, HS, HP, q0, hb00⟩
                  case round =>
                    clear HR HP q0 hb00 HS S
                    obtain ⟨i, S, hib, rfl, HR, HS, HP, q0, hb00⟩ := hrel
                    by_cases hih : i < h
                    · obtain ⟨p, hp⟩ := HPA.out i hih
                      obtain ⟨c0, c1⟩ := HP.at hp
                      obtain ⟨q1, hq1⟩ : ∃ q, A0 + i = q := ⟨_, rfl⟩
                      obtain ⟨q2, hq2⟩ : ∃ q, q1 + h = q := ⟨_, rfl⟩
                      have hq1k : q1 < k := by omega
                      have hq2k : q2 < k := by omega
                      obtain ⟨⟨x0, x1⟩, hx⟩ : ∃ x, S[q1]? = some x := ⟨_, List.getElem?_eq_getElem (by rw [HS.out.1]; exact hq1k)⟩
                      obtain ⟨⟨y0, y1⟩, hy⟩ : ∃ y, S[q2]? = some y := ⟨_, List.getElem?_eq_getElem (by rw [HS.out.1]; exact hq2k)⟩
                      have HX := Lib.hid hx
                      have HY := Lib.hid hy
                      have HXO : Hid (okE (x0, x1)) := HS.out.2.at hx
                      have HYO : Hid (okE (y0, y1)) := HS.out.2.at hy
                      have HQ1 := Lib.hid hq1
                      have HQ2 := Lib.hid hq2
                      have v1 : IntKind.i64.wrap ((A0 : Int) + (i : Int)) = (q1 : Int) := by rw [IntWalk.i64_in _ (by omega)]; omega
                      have v2 : IntKind.i64.wrap ((q1 : Int) + (h : Int)) = (q2 : Int) := by rw [IntWalk.i64_in _ (by omega)]; omega
                      obtain ⟨yp, hyp⟩ : ∃ z, kL f y0 y1 * p = z := ⟨_, rfl⟩
                      obtain ⟨xs, hxs⟩ : ∃ z, kL f x0 x1 + yp = z := ⟨_, rfl⟩
                      obtain ⟨xd, hxd⟩ : ∃ z, kL f x0 x1 - yp = z := ⟨_, rfl⟩
                      have HMY : Hid (∀ wz, Calls Tryd.prog 31 #[.int .u8 f, .agg #[.int .u64 y0, .int .u64 y1], vK p] wz (RetK yp wz)) := fun wz => by
                        have h := field_MulE hf HYO.out (okE_K p) wz
                        rwa [kL_lohi, hyp] at h
                      have HADD : Hid (∀ wz, Calls Tryd.prog 63 #[.int .u8 f, .agg #[.int .u64 x0, .int .u64 x1], vK yp] wz (RetK xs wz)) := fun wz => by
                        have h := field_AddE hf HXO.out (okE_K yp) wz
                        rwa [kL_lohi, hxs] at h
                      have HSUB : Hid (∀ wz, Calls Tryd.prog 72 #[.int .u8 f, .agg #[.int .u64 x0, .int .u64 x1], vK yp] wz (RetK xd wz)) := fun wz => by
                        have h := field_SubE hf HXO.out (okE_K yp) wz
                        rwa [kL_lohi, hxd] at h
                      clear hx hy hp hq1 hq2 hyp hxs hxd
                      go_upto_region 26 with fail
                      have hpg : gp < wr.heap.size := HP.lt
                      have p0 := V2.new wr (.int .u64 (lo p)) (.int .u64 (hi p)) 28
                      have hbA : Below wr.heap.size wr (wr.alloc (.cells #[.int .u64 (lo p), .int .u64 (hi p)] 28)) := by repeat (first | exact Below.refl _ _ | with_reducible assumption | (refine bl_alloc ?_ (Nat.le_refl _) _))
                      replace hb00 := bl_call hb00 (Nat.le_refl _) hbA
                      replace q0 := q0.call hbA
                      replace HR := HR.call hbA
                      replace HP := HP.call hbA
                      clear hbA
                      generalize wr.alloc (.cells #[.int .u64 (lo p), .int .u64 (hi p)] 28) = w5 at hb00 q0 HR HP p0 ⊢
                      obtain ⟨pb, hpb⟩ : ∃ z, wr.heap.size = z := ⟨_, rfl⟩
                      rw [hpb] at p0 hpg
                      simp only [hpb]
                      clear hpb c0 c1
                      obtain ⟨c0, c1⟩ := HR.at HX.out
                      obtain ⟨d0, d1⟩ := HR.at HY.out
                      dsimp only at c0 c1 d0 d1
                      have g1 : (0 : Int) ≤ (q1 : Int) := by omega
                      have g2 : (q1 : Int) < (k : Int) := by omega
                      have g3 : (0 : Int) ≤ (q2 : Int) := by omega
                      have g4 : (q2 : Int) < (k : Int) := by omega
                      have g5 := HR.lt
                      obtain ⟨p00, p01, p02, p03, p04⟩ := V2.mk p0.c0 p0.c1 p0.f0 p0.f1 p0.lt
                      apply region_G2 (n := 19) (m := 21) (f := 19) ((fun xa ya wz => Below w5.heap.size w5 wz ∧ (w5.heap.size ≤ xa ∧ V2 wz xa (.int .u64 0) (.int .u64 0)) ∧ (w5.heap.size ≤ ya ∧ V2 wz ya (.int .u64 0) (.int .u64 0)) ∧ xa ≠ ya))
                      case hm => kernel_rfl
                      case hB => kernel_rfl
                      case hf => rfl
                      case' h =>
                        refine WpG.takeD 0 (some 80) (v := ?_) rfl rfl (by kernel_rfl) (fun _ _ _ h => h) (.val rfl (fun wz hwz => ?_)) ?_
                        rotate_left
                        · go_simp; try (with_reducible rfl)
                        (simp only [Act.put]); (try simp only [List.setIfInBounds_toArray]); (try simp only [List.set_cons_succ]); (try simp only [List.set_cons_zero])
                        refine WpG.takeD 1 (some 81) (v := ?_) rfl rfl (by kernel_rfl) (fun _ _ _ h => h) (.val rfl (fun wz hwz => ?_)) ?_
                        rotate_left
                        · go_simp; try (with_reducible rfl)
                        (simp only [Act.put]); (try simp only [List.setIfInBounds_toArray]); (try simp only [List.set_cons_succ]); (try simp only [List.set_cons_zero])
                        refine WpG.takeD 2 (some 82) (v := ?_) rfl rfl (by kernel_rfl) (fun _ _ _ h => h) (.val rfl (fun wz hwz => ?_)) ?_
                        rotate_left
                        · go_simp; try (with_reducible rfl)
                        (simp only [Act.put]); (try simp only [List.setIfInBounds_toArray]); (try simp only [List.set_cons_succ]); (try simp only [List.set_cons_zero])
                        refine WpG.takeD 3 (some 83) (v := ?_) rfl rfl (by kernel_rfl) (fun _ _ _ h => h) (.val rfl (fun wz hwz => ?_)) ?_
                        rotate_left
                        · go_simp; try (with_reducible rfl)
                        (simp only [Act.put]); (try simp only [List.setIfInBounds_toArray]); (try simp only [List.set_cons_succ]); (try simp only [List.set_cons_zero])
                        refine WpG.takeD 4 (some 84) (v := ?_) rfl rfl (by kernel_rfl) (fun _ _ _ h => h) (.val rfl (fun wz hwz => ?_)) ?_
                        rotate_left
                        · go_simp; try (with_reducible rfl)
                        (simp only [Act.put]); (try simp only [List.setIfInBounds_toArray]); (try simp only [List.set_cons_succ]); (try simp only [List.set_cons_zero])
                        refine WpG.takeD 5 (some 85) (v := ?_) rfl rfl (by kernel_rfl) (fun _ _ _ h => h) (.val rfl (fun wz hwz => ?_)) ?_
                        rotate_left
                        · (obtain ⟨hcz, hfz⟩ := bcell (hwz); go_simp; try (with_reducible rfl))
                        (simp only [Act.put]); (try simp only [List.setIfInBounds_toArray]); (try simp only [List.set_cons_succ]); (try simp only [List.set_cons_zero])
                        refine WpG.takeD 6 (some 86) (v := ?_) rfl rfl (by kernel_rfl) (fun _ _ _ h => h) (.val rfl (fun wz hwz => ?_)) ?_
                        rotate_left
                        · go_simp; try (with_reducible rfl)
                        (simp only [Act.put]); (try simp only [List.setIfInBounds_toArray]); (try simp only [List.set_cons_succ]); (try simp only [List.set_cons_zero])
                        refine WpG.takeD 7 (some 87) (v := ?_) rfl rfl (by kernel_rfl) (fun _ _ _ h => h) (.val rfl (fun wz hwz => ?_)) ?_
                        rotate_left
                        · go_simp; try (with_reducible rfl)
                        (simp only [Act.put]); (try simp only [List.setIfInBounds_toArray]); (try simp only [List.set_cons_succ]); (try simp only [List.set_cons_zero])
                        refine WpG.takeD 8 (some 88) (v := ?_) rfl rfl (by kernel_rfl) (fun _ _ _ h => h) (.val rfl (fun wz hwz => ?_)) ?_
                        rotate_left
                        · go_simp; try (with_reducible rfl)
                        (simp only [Act.put]); (try simp only [List.setIfInBounds_toArray]); (try simp only [List.set_cons_succ]); (try simp only [List.set_cons_zero])
                        refine WpG.takeD 9 (some 89) (v := ?_) rfl rfl (by kernel_rfl) (fun _ _ _ h => h) (.val rfl (fun wz hwz => ?_)) ?_
                        rotate_left
                        · go_simp; try (with_reducible rfl)
                        (simp only [Act.put]); (try simp only [List.setIfInBounds_toArray]); (try simp only [List.set_cons_succ]); (try simp only [List.set_cons_zero])
                        refine WpG.takeD 10 (some 90) (v := ?_) rfl rfl (by kernel_rfl) (fun _ _ _ h => h) (.val rfl (fun wz hwz => ?_)) ?_
                        rotate_left
                        · go_simp; try (with_reducible rfl)
                        (simp only [Act.put]); (try simp only [List.setIfInBounds_toArray]); (try simp only [List.set_cons_succ]); (try simp only [List.set_cons_zero])
                        refine WpG.takeD 11 (some 91) (v := ?_) rfl rfl (by kernel_rfl) (fun _ _ _ h => h) (.val rfl (fun wz hwz => ?_)) ?_
                        rotate_left
                        · go_simp; try (with_reducible rfl)
                        (simp only [Act.put]); (try simp only [List.setIfInBounds_toArray]); (try simp only [List.set_cons_succ]); (try simp only [List.set_cons_zero])
                        refine WpG.takeD 12 (some 92) (v := ?_) rfl rfl (by kernel_rfl) (fun _ _ _ h => h) (.val rfl (fun wz hwz => ?_)) ?_
                        rotate_left
                        · go_simp; try (with_reducible rfl)
                        (simp only [Act.put]); (try simp only [List.setIfInBounds_toArray]); (try simp only [List.set_cons_succ]); (try simp only [List.set_cons_zero])
                        refine WpG.takeD 13 (some 93) (v := ?_) rfl rfl (by kernel_rfl) (fun _ _ _ h => h) (.val rfl (fun wz hwz => ?_)) ?_
                        rotate_left
                        · go_simp; try (with_reducible rfl)
                        (simp only [Act.put]); (try simp only [List.setIfInBounds_toArray]); (try simp only [List.set_cons_succ]); (try simp only [List.set_cons_zero])
                        refine WpG.takeD 14 (some 94) (v := ?_) rfl rfl (by kernel_rfl) (fun _ _ _ h => h) (.val rfl (fun wz hwz => ?_)) ?_
                        rotate_left
                        · (obtain ⟨hcz, hfz⟩ := bcell (hwz); go_simp; try (with_reducible rfl))
                        (simp only [Act.put]); (try simp only [List.setIfInBounds_toArray]); (try simp only [List.set_cons_succ]); (try simp only [List.set_cons_zero])
                        refine WpG.takeD 15 (some 95) (v := ?_) rfl rfl (by kernel_rfl) (fun _ _ _ h => h) (.val rfl (fun wz hwz => ?_)) ?_
                        rotate_left
                        · (obtain ⟨hcz, hfz⟩ := bcell (hwz); go_simp; try (with_reducible rfl))
                        (simp only [Act.put]); (try simp only [List.setIfInBounds_toArray]); (try simp only [List.set_cons_succ]); (try simp only [List.set_cons_zero])
                        refine WpG.takeD 16 (some 96) rfl rfl (by kernel_rfl) (fun _ _ _ h => h) (.call rfl (fun wz hwz => HMY.out wz) (fun wz hwz => ?_)) ?_
                        · go_simp; try (with_reducible rfl)
                        (simp only [Act.put]); (try simp only [List.setIfInBounds_toArray]); (try simp only [List.set_cons_succ]); (try simp only [List.set_cons_zero])
                        refine WpG.twoD 17 18 (some 20) (some 21) rfl rfl rfl rfl (by kernel_rfl) (fun b : Nat => Value.pointer (some ⟨b, 0, none⟩)) (fun b wz => w5.heap.size ≤ b ∧ V2 wz b (.int .u64 0) (.int .u64 0)) (fun _ _ _ h hb => ⟨h.1, h.2.call hb⟩) (Fresh.var [.int .u64 0, .int .u64 0] 28 rfl (fun wz hwz => (hwz).size) (fun wz hwz => by go_simp; try (with_reducible rfl)) (R := fun b wz => V2 wz b (.int .u64 0) (.int .u64 0)) (fun wz hwz => V2.new wz _ _ _)) (fun b : Nat => Value.pointer (some ⟨b, 0, none⟩)) (fun b wz => w5.heap.size ≤ b ∧ V2 wz b (.int .u64 0) (.int .u64 0)) (fun _ _ _ h hb => ⟨h.1, h.2.call hb⟩) (Fresh.var [.int .u64 0, .int .u64 0] 28 rfl (fun wz hwz => (hwz).size) (fun wz hwz => by go_simp; try (with_reducible rfl)) (R := fun b wz => V2 wz b (.int .u64 0) (.int .u64 0)) (fun wz hwz => V2.new wz _ _ _)) (fun xa w0xa hw0xa hR0xa => ?rg26_2a) (fun ya w0ya hw0ya hR0ya => ?rg26_2b)
                        case' rg26_2a =>
                          (simp only [Act.put]); (try simp only [List.setIfInBounds_toArray]); (try simp only [List.set_cons_succ]); (try simp only [List.set_cons_zero])
                          refine WpG.oneD 18 (some 21) rfl rfl (by kernel_rfl) (fun b : Nat => Value.pointer (some ⟨b, 0, none⟩)) (fun b wz => xa + 1 ≤ b ∧ V2 wz b (.int .u64 0) (.int .u64 0)) (fun _ _ _ h hb => ⟨h.1, h.2.call hb⟩) (Fresh.var [.int .u64 0, .int .u64 0] 28 rfl (fun wz hwz => (hwz.2).2.lt) (fun wz hwz => by go_simp; try (with_reducible rfl)) (R := fun b wz => V2 wz b (.int .u64 0) (.int .u64 0)) (fun wz hwz => V2.new wz _ _ _)) (fun ya w0ya hw0ya hR0ya => ?_)
                          (simp only [Act.put]); (try simp only [List.setIfInBounds_toArray]); (try simp only [List.set_cons_succ]); (try simp only [List.set_cons_zero])
                          refine WpG.done (by kernel_rfl) (fun w6 hS => ⟨xa, ya, rfl, ?_⟩)
                          · (obtain ⟨⟨h1, h2, h2'⟩, h3, h3'⟩ := hS; first | exact ⟨h1, ⟨h2, h2'⟩, ⟨by omega, h3'⟩, by omega⟩ | exact ⟨h1, ⟨by omega, h3'⟩, ⟨h2, h2'⟩, by omega⟩)
                        case' rg26_2b =>
                          (simp only [Act.put]); (try simp only [List.setIfInBounds_toArray]); (try simp only [List.set_cons_succ]); (try simp only [List.set_cons_zero])
                          refine WpG.oneD 17 (some 20) rfl rfl (by kernel_rfl) (fun b : Nat => Value.pointer (some ⟨b, 0, none⟩)) (fun b wz => ya + 1 ≤ b ∧ V2 wz b (.int .u64 0) (.int .u64 0)) (fun _ _ _ h hb => ⟨h.1, h.2.call hb⟩) (Fresh.var [.int .u64 0, .int .u64 0] 28 rfl (fun wz hwz => (hwz.2).2.lt) (fun wz hwz => by go_simp; try (with_reducible rfl)) (R := fun b wz => V2 wz b (.int .u64 0) (.int .u64 0)) (fun wz hwz => V2.new wz _ _ _)) (fun xa w0xa hw0xa hR0xa => ?_)
                          (simp only [Act.put]); (try simp only [List.setIfInBounds_toArray]); (try simp only [List.set_cons_succ]); (try simp only [List.set_cons_zero])
                          refine WpG.done (by kernel_rfl) (fun w6 hS => ⟨xa, ya, rfl, ?_⟩)
                          · (obtain ⟨⟨h1, h2, h2'⟩, h3, h3'⟩ := hS; first | exact ⟨h1, ⟨h2, h2'⟩, ⟨by omega, h3'⟩, by omega⟩ | exact ⟨h1, ⟨by omega, h3'⟩, ⟨h2, h2'⟩, by omega⟩)
                      intro xa ya w6 hS
                      (try simp only [List.drop_succ_cons]); (try simp only [List.drop_zero]); (try simp only [Nat.reduceSub]); (try simp only [List.take_succ_cons]); (try simp only [List.take_zero])
                      obtain ⟨hb6, ⟨hxa, xa0⟩, ⟨hya, ya0⟩, hxy⟩ := hS
                      clear p00 p01 p02 p03 p04
                      clear c0 c1 d0 d1 g5 HX HY
                      have hpb5 : pb < w5.heap.size := p0.lt
                      have hga6 : xa < w6.heap.size := xa0.lt
                      replace hb00 := bl_call hb00 (Nat.le_refl _) hb6
                      replace q0 := q0.call hb6
                      replace HR := HR.call hb6
                      replace HP := HP.call hb6
                      replace p0 := p0.call hb6
                      clear hb6 p0
                      obtain ⟨xa00, xa01, xa02, xa03, xa04⟩ := V2.mk xa0.c0 xa0.c1 xa0.f0 xa0.f1 xa0.lt
                      obtain ⟨ya00, ya01, ya02, ya03, ya04⟩ := V2.mk ya0.c0 ya0.c1 ya0.f0 ya0.f1 ya0.lt
                      go_upto_region 27 with fail
                      clear xa00 xa01 xa02 xa03 xa04 ya00 ya01 ya02 ya03 ya04
                      replace xa0 : V2 ((w6.setCell ⟨xa, 0, none⟩ (.int .u64 x0)).setCell ⟨xa, 1, none⟩ (.int .u64 x1)) (xa) (.int .u64 x0) (.int .u64 x1) := V2.set xa0 _ _
                      replace ya0 := V2.oth ya0 (b := xa) (by omega) (.int .u64 x0) (.int .u64 x1)
                      replace q0 := V2.oth q0 (b := xa) (by omega) (.int .u64 x0) (.int .u64 x1)
                      replace HR := (HR.far (p := ⟨xa, 0, none⟩) (by dsimp only; omega) (.int .u64 x0)).far (p := ⟨xa, 1, none⟩) (by dsimp only; omega) (.int .u64 x1)
                      replace HP := (HP.far (p := ⟨xa, 0, none⟩) (by dsimp only; omega) (.int .u64 x0)).far (p := ⟨xa, 1, none⟩) (by dsimp only; omega) (.int .u64 x1)
                      replace hb00 := bl_st hb00 (b := xa) (by omega) (.int .u64 x0) (.int .u64 x1)
                      replace xa0 := V2.oth xa0 (b := ya) (by omega) (.int .u64 (lo yp)) (.int .u64 (hi yp))
                      replace ya0 : V2 ((((w6.setCell ⟨xa, 0, none⟩ (.int .u64 x0)).setCell ⟨xa, 1, none⟩ (.int .u64 x1)).setCell ⟨ya, 0, none⟩ (.int .u64 (lo yp))).setCell ⟨ya, 1, none⟩ (.int .u64 (hi yp))) (ya) (.int .u64 (lo yp)) (.int .u64 (hi yp)) := V2.set ya0 _ _
                      replace q0 := V2.oth q0 (b := ya) (by omega) (.int .u64 (lo yp)) (.int .u64 (hi yp))
                      replace HR := (HR.far (p := ⟨ya, 0, none⟩) (by dsimp only; omega) (.int .u64 (lo yp))).far (p := ⟨ya, 1, none⟩) (by dsimp only; omega) (.int .u64 (hi yp))
                      replace HP := (HP.far (p := ⟨ya, 0, none⟩) (by dsimp only; omega) (.int .u64 (lo yp))).far (p := ⟨ya, 1, none⟩) (by dsimp only; omega) (.int .u64 (hi yp))
                      replace hb00 := bl_st hb00 (b := ya) (by omega) (.int .u64 (lo yp)) (.int .u64 (hi yp))
                      generalize ((((w6.setCell ⟨xa, 0, none⟩ (.int .u64 x0)).setCell ⟨xa, 1, none⟩ (.int .u64 x1)).setCell ⟨ya, 0, none⟩ (.int .u64 (lo yp))).setCell ⟨ya, 1, none⟩ (.int .u64 (hi yp))) = w7 at xa0 ya0 q0 hb00 HR HP ⊢
                      have HSR : RunSE w r x0 x1 yp xa ya gp Q g S w7.drew := ⟨⟨hb00.drew, q0.drew, xa0.drew, ya0.drew, HP.drew⟩, HR.drew⟩
                      have HLN : Hid (S.length = k) := HS.out.1
                      have hgx : g ≠ xa := by omega
                      have hgy : g ≠ ya := by omega
                      have hgg : g ≠ gp := by omega
                      have HST2 : Hid (∀ wz, RunSE w r x0 x1 yp xa ya gp Q g S wz → RunSE w r x0 x1 yp xa ya gp Q g (S.set q1 (lo xs, hi xs)) ((wz.setCell ⟨g, q1 * 2, none⟩ (.int .u64 (lo xs))).setCell ⟨g, q1 * 2 + 1, none⟩ (.int .u64 (hi xs)))) := fun wz h => h.store q1 (by rw [HLN.out]; exact hq1k) _ _ (by omega) hgx hgy hgg
                      have HRA : Hid (∀ wz (l : List E) q, l.length = k → q < k → RwE wz g l → ∃ u v : Value, wz.cell? ⟨g, q * 2, none⟩ = some u ∧ wz.cell? ⟨g, q * 2 + 1, none⟩ = some v ∧ wz.frozen? ⟨g, q * 2, none⟩ = false ∧ wz.frozen? ⟨g, q * 2 + 1, none⟩ = false ∧ g < wz.heap.size) := fun wz l q h1 h2 h3 => by
                        obtain ⟨a1, a2⟩ := h3.at (List.getElem?_eq_getElem (i := q) (by omega))
                        obtain ⟨a3, a4⟩ := h3.frz (i := q) (by omega)
                        exact ⟨_, _, a1, a2, a3, a4, h3.lt⟩
                      clear HR HP q0 hb00 xa0 ya0
                      refine region_X (RunTE w r x0 x1 yp xa ya gp Q) (RunSE w r x0 x1 yp xa ya gp Q g S) (fun _ h => h.t) (RunSE.clo _ _ _ _ _ _ _ _ _ _ _) HSR (n := 20) (m := 22) (f := 20) (by kernel_rfl) (by kernel_rfl) rfl ?_
                      refine WpX.takeD 0 (some 97) (v := ?_) rfl rfl (by kernel_rfl) (fun _ _ _ h => h) (.val rfl (fun wz hwz => ?_)) ?_
                      rotate_left
                      · go_simp; try (with_reducible rfl)
                      (simp only [Act.put]); (try simp only [List.setIfInBounds_toArray]); (try simp only [List.set_cons_succ]); (try simp only [List.set_cons_zero])
                      refine WpX.takeD 1 (some 98) (v := ?_) rfl rfl (by kernel_rfl) (fun _ _ _ h => h) (.val rfl (fun wz hwz => ?_)) ?_
                      rotate_left
                      · go_simp; try (with_reducible rfl)
                      (simp only [Act.put]); (try simp only [List.setIfInBounds_toArray]); (try simp only [List.set_cons_succ]); (try simp only [List.set_cons_zero])
                      refine WpX.takeD 2 (some 99) (v := ?_) rfl rfl (by kernel_rfl) (fun _ _ _ h => h) (.val rfl (fun wz hwz => ?_)) ?_
                      rotate_left
                      · go_simp; try (with_reducible rfl)
                      (simp only [Act.put]); (try simp only [List.setIfInBounds_toArray]); (try simp only [List.set_cons_succ]); (try simp only [List.set_cons_zero])
                      refine WpX.takeD 3 (some 100) (v := ?_) rfl rfl (by kernel_rfl) (fun _ _ _ h => h) (.val rfl (fun wz hwz => ?_)) ?_
                      rotate_left
                      · go_simp; try (with_reducible rfl)
                      (simp only [Act.put]); (try simp only [List.setIfInBounds_toArray]); (try simp only [List.set_cons_succ]); (try simp only [List.set_cons_zero])
                      refine WpX.takeD 4 (some 101) (v := ?_) rfl rfl (by kernel_rfl) (fun _ _ _ h => h) (.val rfl (fun wz hwz => ?_)) ?_
                      rotate_left
                      · go_simp; try (with_reducible rfl)
                      (simp only [Act.put]); (try simp only [List.setIfInBounds_toArray]); (try simp only [List.set_cons_succ]); (try simp only [List.set_cons_zero])
                      refine WpX.takeD 5 (some 102) (v := ?_) rfl rfl (by kernel_rfl) (fun _ _ _ h => h) (.val rfl (fun wz hwz => ?_)) ?_
                      rotate_left
                      · go_simp; try (with_reducible rfl)
                      (simp only [Act.put]); (try simp only [List.setIfInBounds_toArray]); (try simp only [List.set_cons_succ]); (try simp only [List.set_cons_zero])
                      refine WpX.takeD 6 (some 103) (v := ?_) rfl rfl (by kernel_rfl) (fun _ _ _ h => h) (.val rfl (fun wz hwz => ?_)) ?_
                      rotate_left
                      · go_simp; try (with_reducible rfl)
                      (simp only [Act.put]); (try simp only [List.setIfInBounds_toArray]); (try simp only [List.set_cons_succ]); (try simp only [List.set_cons_zero])
                      refine WpX.takeD 7 (some 104) (v := ?_) rfl rfl (by kernel_rfl) (fun _ _ _ h => h) (.val rfl (fun wz hwz => ?_)) ?_
                      rotate_left
                      · go_simp; try (with_reducible rfl)
                      (simp only [Act.put]); (try simp only [List.setIfInBounds_toArray]); (try simp only [List.set_cons_succ]); (try simp only [List.set_cons_zero])
                      refine WpX.takeD 8 (some 105) (v := ?_) rfl rfl (by kernel_rfl) (fun _ _ _ h => h) (.val rfl (fun wz hwz => ?_)) ?_
                      rotate_left
                      · go_simp; try (with_reducible rfl)
                      (simp only [Act.put]); (try simp only [List.setIfInBounds_toArray]); (try simp only [List.set_cons_succ]); (try simp only [List.set_cons_zero])
                      refine WpX.takeD 9 (some 106) (v := ?_) rfl rfl (by kernel_rfl) (fun _ _ _ h => h) (.val rfl (fun wz hwz => ?_)) ?_
                      rotate_left
                      · go_simp; try (with_reducible rfl)
                      (simp only [Act.put]); (try simp only [List.setIfInBounds_toArray]); (try simp only [List.set_cons_succ]); (try simp only [List.set_cons_zero])
                      refine WpX.takeD 10 (some 107) (v := ?_) rfl rfl (by kernel_rfl) (fun _ _ _ h => h) (.val rfl (fun wz hwz => ?_)) ?_
                      rotate_left
                      · go_simp; try (with_reducible rfl)
                      (simp only [Act.put]); (try simp only [List.setIfInBounds_toArray]); (try simp only [List.set_cons_succ]); (try simp only [List.set_cons_zero])
                      refine WpX.takeD 11 (some 108) (v := ?_) rfl rfl (by kernel_rfl) (fun _ _ _ h => h) (.val rfl (fun wz hwz => ?_)) ?_
                      rotate_left
                      · (obtain ⟨z0, z1, z2, z3, z4⟩ := V2.mk hwz.vx.c0 hwz.vx.c1 hwz.vx.f0 hwz.vx.f1 hwz.vx.lt; go_simp; try (with_reducible rfl))
                      (simp only [Act.put]); (try simp only [List.setIfInBounds_toArray]); (try simp only [List.set_cons_succ]); (try simp only [List.set_cons_zero])
                      refine WpX.takeD 12 (some 109) (v := ?_) rfl rfl (by kernel_rfl) (fun _ _ _ h => h) (.val rfl (fun wz hwz => ?_)) ?_
                      rotate_left
                      · (obtain ⟨z0, z1, z2, z3, z4⟩ := V2.mk hwz.vy.c0 hwz.vy.c1 hwz.vy.f0 hwz.vy.f1 hwz.vy.lt; go_simp; try (with_reducible rfl))
                      (simp only [Act.put]); (try simp only [List.setIfInBounds_toArray]); (try simp only [List.set_cons_succ]); (try simp only [List.set_cons_zero])
                      refine WpX.takeD 13 (some 110) rfl rfl (by kernel_rfl) (fun _ _ _ h => h) (.call rfl (fun wz hwz => HADD.out wz) (fun wz hwz => ?_)) ?_
                      · go_simp; try (with_reducible rfl)
                      (simp only [Act.put]); (try simp only [List.setIfInBounds_toArray]); (try simp only [List.set_cons_succ]); (try simp only [List.set_cons_zero])
                      refine WpX.takeD 14 (some 111) (v := ?_) rfl rfl (by kernel_rfl) (fun _ _ _ h => h) (.val rfl (fun wz hwz => ?_)) ?_
                      rotate_left
                      · go_simp; try (with_reducible rfl)
                      (simp only [Act.put]); (try simp only [List.setIfInBounds_toArray]); (try simp only [List.set_cons_succ]); (try simp only [List.set_cons_zero])
                      refine WpX.takeD 15 (some 112) (v := ?_) rfl rfl (by kernel_rfl) (fun _ _ _ h => h) (.val rfl (fun wz hwz => ?_)) ?_
                      rotate_left
                      · (obtain ⟨z0, z1, z2, z3, z4⟩ := V2.mk hwz.vx.c0 hwz.vx.c1 hwz.vx.f0 hwz.vx.f1 hwz.vx.lt; go_simp; try (with_reducible rfl))
                      (simp only [Act.put]); (try simp only [List.setIfInBounds_toArray]); (try simp only [List.set_cons_succ]); (try simp only [List.set_cons_zero])
                      refine WpX.takeD 16 (some 113) (v := ?_) rfl rfl (by kernel_rfl) (fun _ _ _ h => h) (.val rfl (fun wz hwz => ?_)) ?_
                      rotate_left
                      · (obtain ⟨z0, z1, z2, z3, z4⟩ := V2.mk hwz.vy.c0 hwz.vy.c1 hwz.vy.f0 hwz.vy.f1 hwz.vy.lt; go_simp; try (with_reducible rfl))
                      (simp only [Act.put]); (try simp only [List.setIfInBounds_toArray]); (try simp only [List.set_cons_succ]); (try simp only [List.set_cons_zero])
                      refine WpX.takeD 17 (some 114) rfl rfl (by kernel_rfl) (fun _ _ _ h => h) (.call rfl (fun wz hwz => HSUB.out wz) (fun wz hwz => ?_)) ?_
                      · go_simp; try (with_reducible rfl)
                      (simp only [Act.put]); (try simp only [List.setIfInBounds_toArray]); (try simp only [List.set_cons_succ]); (try simp only [List.set_cons_zero])
                      refine WpX.takeD 18 (some 115) (v := ?_) rfl rfl (by kernel_rfl) (fun _ _ _ h => h) (.val rfl (fun wz hwz => ?_)) ?_
                      rotate_left
                      · go_simp; try (with_reducible rfl)
                      (simp only [Act.put]); (try simp only [List.setIfInBounds_toArray]); (try simp only [List.set_cons_succ]); (try simp only [List.set_cons_zero])
                      refine WpX.oneSkip 19 none rfl rfl (by kernel_rfl) (RunTE w r x0 x1 yp xa ya gp Q) (RunSE w r x0 x1 yp xa ya gp Q g (S.set q1 (lo xs, hi xs))) (fun _ h => h) (fun _ h => h.t) (RunSE.clo _ _ _ _ _ _ _ _ _ _ _) rfl (fun wz hS => ?_) ?_
                      · (obtain ⟨u, v, z0, z1, z2, z3, z4⟩ := HRA.out wz S q1 HLN.out hq1k hS.rw; refine ⟨_, ?_, HST2.out wz hS⟩; go_simp; try (with_reducible rfl))
                      (simp only [Act.put]); (try simp only [List.setIfInBounds_toArray]); (try simp only [List.set_cons_succ]); (try simp only [List.set_cons_zero])
                      refine WpX.done (by kernel_rfl) (fun w8 hS => ?_)
                      (try simp only [List.drop_succ_cons]); (try simp only [List.drop_zero]); (try simp only [Nat.reduceSub]); (try simp only [List.take_succ_cons]); (try simp only [List.take_zero])
                      obtain ⟨⟨hb00, q0, _, _, HP⟩, HR⟩ := hS
                      obtain ⟨u8, v8, d0, d1, f2, f3, g5⟩ := HRA.out w8 _ q2 (by rw [List.length_set]; exact HLN.out) hq2k HR
                      clear HRA HST2 HSR
                      go_wp2_with fail
                      go_roundw
                      case rel =>
                        have h := HR.set q2 (by rw [List.length_set, HLN.out]; omega) (lo xd) (hi xd)
                        exact ⟨i + 1, _, by omega, by go_num, h, ⟨by rw [List.length_set, List.length_set]; exact HLN.out, (HS.out.2.set _ (okE_K _)).set _ (okE_K _)⟩, (HP.far (by dsimp only; omega) _).far (by dsimp only; omega) _, V2.setOther (V2.setOther q0 (by dsimp only; omega) _) (by dsimp only; omega) _, bl_set (bl_set hb00 (by dsimp only; omega) _) (by dsimp only; omega) _⟩
                      case measure => simp [intOf]; omega
                    · obtain rfl : i = h := by omega
                      obtain ⟨A1, hA1⟩ : ∃ A1, (B + 1) * (2 * i) = A1 := ⟨_, rfl⟩
                      have HA1 := Lib.hid hA1
                      have hA8 : A1 = A0 + 2 * i := by rw [← hA1, HBS.out]
                      have hA9 : (A0 : Int) + 2 * (i : Int) = (A1 : Int) := by omega
                      have hA7 : A0 < A1 := by omega
                      have hA6 : A1 ≤ k := by omega
                      clear hA1 hA8
                      go_wp2_with fail
                      go_roundw
                      case rel => exact ⟨B + 1, S, by omega, by rw [HA1.out], HR, HS, HP, q0, hb00⟩
                      case measure => simp [intOf]; omega
                · obtain rfl : B = m := by omega
                  have hA9 : B * (2 * h) = k := HP2.out
                  rw [hA9]
                  go_wp2_with fail
                  go_roundw
                  case rel => exact ⟨s + 1, S, by omega, by go_num, HR, HS, q0, hb00, HR.lt⟩
                  case measure => simp [intOf]; omega
        · obtain rfl : s = L := by omega
          have t2 : decide ((s : Int) + 1 ≤ (s : Int)) = false := by simp; omega
          go_wp2_with fail
          go_ret
          exact ⟨g, S, rfl, HR, HS.out.1, HS.out.2, by omega, hb00⟩
end

end Go.Proofs.YtfhmineolncefaaDoor

namespace Go.Proofs.YtfhmineolncefaaDoor
open Go.RowKit Fm
set_option linter.unusedVariables false
set_option maxRecDepth 100000

section
variable {f : Nat} (hf : IsF f)
include hf

set_option maxHeartbeats 4000000 in
theorem ntt_Values_E (L : Nat) (hL : L ≤ 10) (vl : Value) (l : List E) (hl : l.length = 2 ^ L) (w : World) (hT : TabW w) (hs : SlE w w.heap.size vl l) :
    Calls Tryd.prog 18 #[.int .u8 f, vl] w (RetBlkE0 (2 ^ L) w) := by
  have HV := Lib.hid (fun wz => field_ValidT hf wz)
  have HLG := Lib.hid (fun wz (h : TabW wz) => ntt_Log_ok L hL wz h)
  have HRT := Lib.hid (fun wz => field_Root hf L (by omega) wz)
  have HRUN : Hid (∀ v wz (r : Fin (Pm f)), SlE wz wz.heap.size v l → Calls Tryd.prog 61 #[.int .u8 f, v, vK r, .int .i64 L] wz (RetBlkE (2 ^ L) wz)) := fun v wz r h => ntt_run_E hf L hL v l hl r wz h
  have H0 := Lib.hid hs
  have hfb0 : (1 : Int) ≤ (f : Int) := by rcases hf.or with rfl | rfl <;> omega
  have hfb1 : (f : Int) ≤ 2 := by rcases hf.or with rfl | rfl <;> omega
  obtain ⟨⟨A, c, rfl, hc, hcm, hA⟩, _⟩ := hs
  have hp : 2 ^ L ≤ 2 ^ 10 := Nat.pow_le_pow_right (by omega) hL
  rw [hl] at hc H0 ⊢
  clear hA hl
  generalize rootK f L = r at *
  generalize 2 ^ L = n at *
  have hb00 : Below w.heap.size w w := Below.refl _ _
  go_enter Tryd.func18, Tryd.ntmps18
  go_wp2_with fail
  refine (HV.out _).mono ?_
  rintro e w' ⟨rfl, rfl⟩
  go_wp2_with fail
  refine (HLG.out _ hT).mono ?_
  rintro e w' ⟨rfl, rfl⟩
  go_wp2_with fail
  refine (HRT.out _).mono ?_
  rintro e w1 ⟨rfl, hb1⟩
  replace hb00 := bl_call hb00 (Nat.le_refl _) hb1
  clear hb1
  go_upto_region 7 with fail
  have r0 := V2.new w1 (.int .u64 (lo r)) (.int .u64 (hi r)) 28
  have hbA : Below w1.heap.size w1 (w1.alloc (.cells #[.int .u64 (lo r), .int .u64 (hi r)] 28)) := by repeat (first | exact Below.refl _ _ | with_reducible assumption | (refine bl_alloc ?_ (Nat.le_refl _) _))
  replace hb00 := bl_call hb00 (Nat.le_refl _) hbA
  clear hbA
  generalize w1.alloc (.cells #[.int .u64 (lo r), .int .u64 (hi r)] 28) = w2 at hb00 r0 ⊢
  obtain ⟨r00, r01, r02, r03, r04⟩ := V2.mk r0.c0 r0.c1 r0.f0 r0.f1 r0.lt
  go_wp2_with fail
  refine (HRUN.out _ _ r (H0.out.later hb00)).mono ?_
  rintro e w3 ⟨g, S, rfl, hR, hSl, hSo, hg, hb3⟩
  have hg2 := Nat.le_trans hb00.size hg
  have HR := Lib.hid hR
  have HSL := Lib.hid hSl
  have HSO := Lib.hid hSo
  clear hR hSl hSo
  replace hb00 := bl_call hb00 (Nat.le_refl _) hb3
  replace r0 := r0.call hb3
  go_wp2_with fail
  go_ret2
  exact ⟨g, S, rfl, HR.out, HSL.out, HSO.out, hg2, hb00⟩

set_option maxHeartbeats 8000000 in
theorem ntt_Coefs_E (L : Nat) (hL : L ≤ 10) (vl : Value) (l : List E) (hl : l.length = 2 ^ L) (w : World) (hT : TabW w) (hs : SlE w w.heap.size vl l) :
    Calls Tryd.prog 20 #[.int .u8 f, vl] w (RetBlkE0 (2 ^ L) w) := by
  have HV := Lib.hid (fun wz => field_ValidT hf wz)
  have HLG := Lib.hid (fun wz (h : TabW wz) => ntt_Log_ok L hL wz h)
  have HRT := Lib.hid (fun wz => field_Root hf L (by omega) wz)
  have hrt := rt_root f L (by omega)
  have hp : 2 ^ L ≤ 2 ^ 10 := Nat.pow_le_pow_right (by omega) hL
  have hp0 := Nat.two_pow_pos L
  have hnn : nn f (2 ^ L) ≠ 0 := nn_ne f _ hp0 (two_pow_lt (by omega))
  have HI1 : Hid (∀ wz, Calls Tryd.prog 64 #[.int .u8 f, vK (rootK f L)] wz fun e w' => e = .returned (.tuple #[vK (Fm.kinv (rootK f L)), .int .i64 0]) ∧ Below wz.heap.size wz w') := fun wz => (field_Inv hf (rootK f L) wz).mono fun e w' h => by
    rcases h with ⟨h0, _⟩ | ⟨_, h1, h2⟩
    · exact absurd h0 hrt.ne_zero
    · rw [kinv_fm] at h1
      exact ⟨h1, h2⟩
  have HI2 : Hid (∀ wz, Calls Tryd.prog 64 #[.int .u8 f, vK (nn f (2 ^ L))] wz fun e w' => e = .returned (.tuple #[vK (Fm.kinv (nn f (2 ^ L))), .int .i64 0]) ∧ Below wz.heap.size wz w') := fun wz => (field_Inv hf (nn f (2 ^ L)) wz).mono fun e w' h => by
    rcases h with ⟨h0, _⟩ | ⟨_, h1, h2⟩
    · exact absurd h0 hnn
    · rw [kinv_fm] at h1
      exact ⟨h1, h2⟩
  have HOF : Hid (∀ wz, Calls Tryd.prog 65 #[.int .u8 f, .int .u64 ((2 ^ L : Nat) : Int)] wz (RetK (nn f (2 ^ L)) wz)) := fun wz => by
    rw [nn_nK]
    exact field_Of hf _ wz (by omega) (by omega)
  have HRUN : Hid (∀ v wz (r : Fin (Pm f)), SlE wz wz.heap.size v l → Calls Tryd.prog 61 #[.int .u8 f, v, vK r, .int .i64 L] wz (RetBlkE (2 ^ L) wz)) := fun v wz r h => ntt_run_E hf L hL v l hl r wz h
  have H0 := Lib.hid hs
  have hfb0 : (1 : Int) ≤ (f : Int) := by rcases hf.or with rfl | rfl <;> omega
  have hfb1 : (f : Int) ≤ 2 := by rcases hf.or with rfl | rfl <;> omega
  obtain ⟨⟨A, c, rfl, hc, hcm, hA⟩, _⟩ := hs
  rw [hl] at hc H0 ⊢
  have hcu : IntKind.u64.wrap ((2 ^ L : Nat) : Int) = ((2 ^ L : Nat) : Int) := IntWalk.u64_in _ (by omega)
  clear hA hl hrt hnn
  generalize Fm.kinv (nn f (2 ^ L)) = ni at *
  generalize nn f (2 ^ L) = nx at *
  generalize Fm.kinv (rootK f L) = ri at *
  generalize rootK f L = r at *
  generalize 2 ^ L = n at *
  have hb00 : Below w.heap.size w w := Below.refl _ _
  go_enter Tryd.func20, Tryd.ntmps20
  go_wp2_with fail
  refine (HV.out _).mono ?_
  rintro e w' ⟨rfl, rfl⟩
  go_wp2_with fail
  refine (HLG.out _ hT).mono ?_
  rintro e w' ⟨rfl, rfl⟩
  go_wp2_with fail
  refine (HRT.out _).mono ?_
  rintro e w1 ⟨rfl, hb1⟩
  replace hb00 := bl_call hb00 (Nat.le_refl _) hb1
  clear hb1
  go_upto_region 7 with fail
  have r0 := V2.new w1 (.int .u64 (lo r)) (.int .u64 (hi r)) 28
  have hbA : Below w1.heap.size w1 (w1.alloc (.cells #[.int .u64 (lo r), .int .u64 (hi r)] 28)) := by repeat (first | exact Below.refl _ _ | with_reducible assumption | (refine bl_alloc ?_ (Nat.le_refl _) _))
  replace hb00 := bl_call hb00 (Nat.le_refl _) hbA
  clear hbA
  generalize w1.alloc (.cells #[.int .u64 (lo r), .int .u64 (hi r)] 28) = w2 at hb00 r0 ⊢
  obtain ⟨r00, r01, r02, r03, r04⟩ := V2.mk r0.c0 r0.c1 r0.f0 r0.f1 r0.lt
  go_wp2_with fail
  refine (HI1.out _).mono ?_
  rintro e w3 ⟨rfl, hb3⟩
  clear r00 r01 r02 r03 r04
  clear r0
  replace hb00 := bl_call hb00 (Nat.le_refl _) hb3
  clear hb3
  go_upto_region 10 with fail
  have r0 := V2.new w3 (.int .u64 (lo ri)) (.int .u64 (hi ri)) 28
  have hbA : Below w3.heap.size w3 (w3.alloc (.cells #[.int .u64 (lo ri), .int .u64 (hi ri)] 28)) := by repeat (first | exact Below.refl _ _ | with_reducible assumption | (refine bl_alloc ?_ (Nat.le_refl _) _))
  replace hb00 := bl_call hb00 (Nat.le_refl _) hbA
  clear hbA
  generalize w3.alloc (.cells #[.int .u64 (lo ri), .int .u64 (hi ri)] 28) = w4 at hb00 r0 ⊢
  obtain ⟨rb, hrb⟩ : ∃ z, w3.heap.size = z := ⟨_, rfl⟩
  rw [hrb] at r0
  simp only [hrb]
  clear hrb
  go_wp2_with fail
  refine (HOF.out _).mono ?_
  rintro e w5 ⟨rfl, hb5⟩
  replace hb00 := bl_call hb00 (Nat.le_refl _) hb5
  replace r0 := r0.call hb5
  clear hb5
  go_wp2_with fail
  refine (HI2.out _).mono ?_
  rintro e w6 ⟨rfl, hb6⟩
  replace hb00 := bl_call hb00 (Nat.le_refl _) hb6
  replace r0 := r0.call hb6
  clear hb6
  go_upto_region 13 with fail
  have n0 := V2.new w6 (.int .u64 (lo ni)) (.int .u64 (hi ni)) 28
  have hbA : Below w6.heap.size w6 (w6.alloc (.cells #[.int .u64 (lo ni), .int .u64 (hi ni)] 28)) := by repeat (first | exact Below.refl _ _ | with_reducible assumption | (refine bl_alloc ?_ (Nat.le_refl _) _))
  replace hb00 := bl_call hb00 (Nat.le_refl _) hbA
  replace r0 := r0.call hbA
  clear hbA
  generalize w6.alloc (.cells #[.int .u64 (lo ni), .int .u64 (hi ni)] 28) = w7 at hb00 r0 n0 ⊢
  obtain ⟨nb, hnb⟩ : ∃ z, w6.heap.size = z := ⟨_, rfl⟩
  rw [hnb] at n0
  simp only [hnb]
  clear hnb
  obtain ⟨r00, r01, r02, r03, r04⟩ := V2.mk r0.c0 r0.c1 r0.f0 r0.f1 r0.lt
  go_wp2_with fail
  refine (HRUN.out _ _ ri (H0.out.later hb00)).mono ?_
  rintro e w8 ⟨g, S, rfl, hR, hSl, hSo, hg, hb8⟩
  have HS : Hid (S.length = n ∧ OkL S) := ⟨hSl, hSo⟩
  have hg2 := Nat.le_trans hb00.size hg
  have hng : nb < g := Nat.lt_of_lt_of_le n0.lt hg
  clear r00 r01 r02 r03 r04
  clear r0 hSl hSo
  replace hb00 := bl_call hb00 (Nat.le_refl _) hb8
  replace n0 := n0.call hb8
  clear hb8 hg
  go_wp2_with fail
  go_loopw [63] (fun iv wr => ∃ (k : Nat) (S : List E), k ≤ n ∧ iv = .int .i64 k ∧ RwE wr g S ∧ Hid (S.length = n ∧ OkL S) ∧ V2 wr nb (.int .u64 (lo ni)) (.int .u64 (hi ni)) ∧ Below w.heap.size w wr) (fun iv _ => n - (intOf iv).toNat)
  case atStart => exact ⟨0, S, Nat.zero_le _, rfl, hR, HS, n0, hb00⟩
  case round =>
    clear hR HS n0 hb00 S
    obtain ⟨k, S, hk, rfl, hR, HS, n0, hb00⟩ := hrel
    by_cases hlt : k < n
    · obtain ⟨⟨x0, x1⟩, hx⟩ : ∃ x, S[k]? = some x := ⟨_, List.getElem?_eq_getElem (by have := HS.out.1; omega)⟩
      have HX : Hid (okE (x0, x1)) := HS.out.2.at hx
      obtain ⟨c0, c1⟩ := hR.at hx
      dsimp only at c0 c1
      have g1 : (0 : Int) ≤ (k : Int) := by omega
      have g2 : (k : Int) < (n : Int) := by omega
      have g5 := hR.lt
      obtain ⟨xn, hxn⟩ : ∃ z, kL f x0 x1 * ni = z := ⟨_, rfl⟩
      have HMU : Hid (∀ wz, Calls Tryd.prog 31 #[.int .u8 f, .agg #[.int .u64 x0, .int .u64 x1], vK ni] wz (RetK xn wz)) := fun wz => by
        have h := field_MulE hf HX.out (okE_K ni) wz
        rwa [kL_lohi, hxn] at h
      clear hx hxn
      obtain ⟨n00, n01, n02, n03, n04⟩ := V2.mk n0.c0 n0.c1 n0.f0 n0.f1 n0.lt
      go_upto_region 19 with fail
      refine region_B (n := 9) (m := 11) (f := 9) (by kernel_rfl) (by kernel_rfl) rfl ?_
      refine WpH.takeD 0 (some 66) (v := ?_) rfl rfl (by kernel_rfl) (fun _ _ _ h => h) (.val rfl (fun wz hwz => ?_)) ?_
      rotate_left
      · go_simp; try (with_reducible rfl)
      (simp only [Act.put]); (try simp only [List.setIfInBounds_toArray]); (try simp only [List.set_cons_succ]); (try simp only [List.set_cons_zero])
      refine WpH.takeD 1 (some 67) (v := ?_) rfl rfl (by kernel_rfl) (fun _ _ _ h => h) (.val rfl (fun wz hwz => ?_)) ?_
      rotate_left
      · go_simp; try (with_reducible rfl)
      (simp only [Act.put]); (try simp only [List.setIfInBounds_toArray]); (try simp only [List.set_cons_succ]); (try simp only [List.set_cons_zero])
      refine WpH.takeD 2 (some 68) (v := ?_) rfl rfl (by kernel_rfl) (fun _ _ _ h => h) (.val rfl (fun wz hwz => ?_)) ?_
      rotate_left
      · go_simp; try (with_reducible rfl)
      (simp only [Act.put]); (try simp only [List.setIfInBounds_toArray]); (try simp only [List.set_cons_succ]); (try simp only [List.set_cons_zero])
      refine WpH.takeD 3 (some 69) (v := ?_) rfl rfl (by kernel_rfl) (fun _ _ _ h => h) (.val rfl (fun wz hwz => ?_)) ?_
      rotate_left
      · go_simp; try (with_reducible rfl)
      (simp only [Act.put]); (try simp only [List.setIfInBounds_toArray]); (try simp only [List.set_cons_succ]); (try simp only [List.set_cons_zero])
      refine WpH.takeD 4 (some 70) (v := ?_) rfl rfl (by kernel_rfl) (fun _ _ _ h => h) (.val rfl (fun wz hwz => ?_)) ?_
      rotate_left
      · go_simp; try (with_reducible rfl)
      (simp only [Act.put]); (try simp only [List.setIfInBounds_toArray]); (try simp only [List.set_cons_succ]); (try simp only [List.set_cons_zero])
      refine WpH.takeD 5 (some 71) (v := ?_) rfl rfl (by kernel_rfl) (fun _ _ _ h => h) (.val rfl (fun wz hwz => ?_)) ?_
      rotate_left
      · go_simp; try (with_reducible rfl)
      (simp only [Act.put]); (try simp only [List.setIfInBounds_toArray]); (try simp only [List.set_cons_succ]); (try simp only [List.set_cons_zero])
      refine WpH.takeD 6 (some 72) (v := ?_) rfl rfl (by kernel_rfl) (fun _ _ _ h => h) (.val rfl (fun wz hwz => ?_)) ?_
      rotate_left
      · (obtain ⟨hcz, hfz⟩ := bcell hwz; go_simp; try (with_reducible rfl))
      (simp only [Act.put]); (try simp only [List.setIfInBounds_toArray]); (try simp only [List.set_cons_succ]); (try simp only [List.set_cons_zero])
      refine WpH.takeD 7 (some 73) (v := ?_) rfl rfl (by kernel_rfl) (fun _ _ _ h => h) (.val rfl (fun wz hwz => ?_)) ?_
      rotate_left
      · (obtain ⟨hcz, hfz⟩ := bcell hwz; go_simp; try (with_reducible rfl))
      (simp only [Act.put]); (try simp only [List.setIfInBounds_toArray]); (try simp only [List.set_cons_succ]); (try simp only [List.set_cons_zero])
      refine WpH.takeD 8 (some 74) rfl rfl (by kernel_rfl) (fun _ _ _ h => h) (.call rfl (fun wz hwz => HMU.out wz) (fun wz hwz => ?_)) ?_
      · go_simp; try (with_reducible rfl)
      (simp only [Act.put]); (try simp only [List.setIfInBounds_toArray]); (try simp only [List.set_cons_succ]); (try simp only [List.set_cons_zero])
      refine WpH.doneB (by kernel_rfl) (fun w9 hw9 => ?_)
      (try simp only [List.drop_succ_cons]); (try simp only [List.drop_zero]); (try simp only [Nat.reduceSub]); (try simp only [List.take_succ_cons]); (try simp only [List.take_zero])
      clear n00 n01 n02 n03 n04
      clear c0 c1 g5
      replace hb00 := bl_call hb00 (Nat.le_refl _) hw9
      replace n0 := n0.call hw9
      replace hR := hR.call hw9
      clear hw9
      obtain ⟨x9, hx9⟩ : ∃ x, S[k]? = some x := ⟨_, List.getElem?_eq_getElem (by have := HS.out.1; omega)⟩
      obtain ⟨c0, c1⟩ := hR.at hx9
      obtain ⟨f0, f1⟩ := hR.frz (i := k) (by have := HS.out.1; omega)
      have g5 := hR.lt
      clear hx9
      go_wp2_with fail
      go_roundw
      case rel =>
        have HL := HS.out.1
        exact ⟨k + 1, _, by omega, by go_num, hR.set k (by omega) (lo xn) (hi xn), ⟨by rw [List.length_set]; exact HL, HS.out.2.set _ (okE_K xn)⟩, V2.setOther (V2.setOther n0 (by dsimp only; omega) _) (by dsimp only; omega) _, by repeat (first | exact Below.refl _ _ | with_reducible assumption | (refine bl_alloc ?_ (Nat.le_refl _) _) | (refine bl_set ?_ (by dsimp only; omega) _) | (refine Below.drew ?_) | (refine bl_drewN ?_ _) | (refine bl_call ?_ (Nat.le_refl _) (by assumption)))⟩
      case measure => simp [intOf]; omega
    · obtain rfl : k = n := by omega
      have HRR := Lib.hid hR
      clear hR
      go_wp2
      go_ret2
      exact ⟨g, S, rfl, HRR.out, HS.out.1, HS.out.2, hg2, hb00⟩
end

end Go.Proofs.YtfhmineolncefaaDoor

namespace Go.Proofs.YtfhmineolncefaaDoor
open Go.RowKit Fm
set_option linter.unusedVariables false
set_option maxRecDepth 100000

/-- a number, cut to what the loop looks at -/
def cutN (n : Int) : Nat := (min n 1024).toNat
theorem cutN_le (n : Int) : cutN n ≤ 1024 := by unfold cutN; omega
theorem cutN_lt {n : Int} {p : Nat} (h1 : 1 ≤ p) (h2 : p < cutN n) : (p : Int) < n ∧ p < 1024 := by unfold cutN at h2; omega
theorem cutN_ge {n : Int} {p : Nat} (h1 : 1 ≤ p) (h2 : ¬ (p < cutN n)) (h3 : p ≤ 1024) : ¬ ((p : Int) < n) ∨ p = 1024 := by unfold cutN at h2; omega

theorem ntt_NextI (n : Int) (w : World) : Calls Tryd.prog 27 #[.int .i64 n] w fun e w' => e = .returned (.int .i64 (nextP (cutN n))) ∧ w = w' := by
  have HC1 : Hid (∀ p : Nat, 1 ≤ p → p < cutN n → (p : Int) < n ∧ p < 1024) := fun p h1 h2 => cutN_lt h1 h2
  have HC2 : Hid (∀ p : Nat, 1 ≤ p → ¬ (p < cutN n) → p ≤ 1024 → ¬ ((p : Int) < n) ∨ p = 1024) := fun p h1 h2 h3 => cutN_ge h1 h2 h3
  have HC3 : Hid (cutN n ≤ 1024) := cutN_le n
  generalize cutN n = m at *
  go_enter Tryd.func27, Tryd.ntmps27
  go_wp2
  go_loop [3] (fun o => ∃ p : Nat, o = .int .i64 p ∧ Hid (OnWay m p) ∧ p ≤ 1024) (fun o => 1024 - (intOf o).toNat)
  case atStart => exact ⟨1, rfl, onWay_one m, by omega⟩
  case round =>
    obtain ⟨p, rfl, hp, hp2⟩ := hrel
    have h4 := (onWay_le hp.out).1
    by_cases hlt : p < m
    · obtain ⟨h0, h1⟩ := HC1.out p h4 hlt
      have h2 := onWay_next hp.out hlt h1
      have h3 := (onWay_le h2).2
      have H2 := Lib.hid h2
      clear h2
      go_wp2
      go_round
      case rel => exact ⟨2 * p, by go_num, H2.out, h3⟩
      case measure => simp [intOf]; omega
    · have h5 := Lib.hid (onWay_end hp.out HC3.out hlt)
      rcases HC2.out p h4 hlt hp2 with h6 | h6
      · go_wp2
        go_ret
        exact ⟨ret_int (by rw [h5.out]), rfl⟩
      · subst h6
        go_wp2
        all_goals (go_ret; exact ⟨ret_int (by rw [h5.out]; rfl), rfl⟩)

section
variable (F : Int) (hF : ¬ (F = 1) ∧ ¬ (F = 2))
include hF
theorem ntt_inval (w : World) : Calls Tryd.prog 59 #[.int .u8 F] w fun e w' => e = .returned (.bool false) ∧ w = w' :=
  ntt_no_field F (by rw [beq_eq_false_iff_ne]; exact hF.1) (by rw [beq_eq_false_iff_ne]; exact hF.2) w
theorem ntt_Points_kind (k : Int) (w : World) : Calls Tryd.prog 23 #[.int .u8 F, .int .i64 k] w (RetE9 10 w) := by
  have HV := Lib.hid (fun wz => ntt_inval F hF wz)
  go_enter Tryd.func23, Tryd.ntmps23
  go_wp2_with fail
  refine (HV.out _).mono ?_
  rintro e w' ⟨rfl, rfl⟩
  go_wp2_with fail
  go_ret2
  exact ⟨rfl, Below.refl _ _⟩
theorem ntt_Values_kind (v : Value) (w : World) : Calls Tryd.prog 18 #[.int .u8 F, v] w (RetE9 10 w) := by
  have HV := Lib.hid (fun wz => ntt_inval F hF wz)
  go_enter Tryd.func18, Tryd.ntmps18
  go_wp2_with fail
  refine (HV.out _).mono ?_
  rintro e w' ⟨rfl, rfl⟩
  go_wp2_with fail
  go_ret2
  exact ⟨rfl, Below.refl _ _⟩
theorem ntt_Coefs_kind (v : Value) (w : World) : Calls Tryd.prog 20 #[.int .u8 F, v] w (RetE9 10 w) := by
  have HV := Lib.hid (fun wz => ntt_inval F hF wz)
  go_enter Tryd.func20, Tryd.ntmps20
  go_wp2_with fail
  refine (HV.out _).mono ?_
  rintro e w' ⟨rfl, rfl⟩
  go_wp2_with fail
  go_ret2
  exact ⟨rfl, Below.refl _ _⟩
end

section
variable {f : Nat} (hf : IsF f)
include hf
theorem ntt_Points_range (k : Int) (hk : k < 0 ∨ 10 < k) (w : World) : Calls Tryd.prog 23 #[.int .u8 f, .int .i64 k] w (RetE9 6 w) := by
  have HV := Lib.hid (fun wz => field_ValidT hf wz)
  rcases hk with hk | hk
  · go_enter Tryd.func23, Tryd.ntmps23
    go_wp2_with fail
    refine (HV.out _).mono ?_
    rintro e w' ⟨rfl, rfl⟩
    go_wp2_with fail
    go_ret2
    exact ⟨rfl, Below.refl _ _⟩
  · have hk2 : ¬ (k < 0) := by omega
    go_enter Tryd.func23, Tryd.ntmps23
    go_wp2_with fail
    refine (HV.out _).mono ?_
    rintro e w' ⟨rfl, rfl⟩
    go_wp2_with fail
    go_ret2
    exact ⟨rfl, Below.refl _ _⟩
theorem ntt_Values_size (A : Option Addr) (n c : Nat) (h : ∀ k : Nat, k ≤ 10 → n ≠ 2 ^ k) (w : World) : Calls Tryd.prog 18 #[.int .u8 f, .slice A n c] w (RetE9 9 w) := by
  have HV := Lib.hid (fun wz => field_ValidT hf wz)
  have HL := Lib.hid (fun wz => ntt_Log_no (n : Int) wz (fun k hk he => h k hk (by exact_mod_cast he)))
  clear h
  go_enter Tryd.func18, Tryd.ntmps18
  go_wp2_with fail
  refine (HV.out _).mono ?_
  rintro e w' ⟨rfl, rfl⟩
  go_wp2_with fail
  refine (HL.out _).mono ?_
  rintro e w' ⟨rfl, rfl⟩
  go_wp2_with fail
  go_ret2
  exact ⟨rfl, Below.refl _ _⟩
theorem ntt_Coefs_size (A : Option Addr) (n c : Nat) (h : ∀ k : Nat, k ≤ 10 → n ≠ 2 ^ k) (w : World) : Calls Tryd.prog 20 #[.int .u8 f, .slice A n c] w (RetE9 9 w) := by
  have HV := Lib.hid (fun wz => field_ValidT hf wz)
  have HL := Lib.hid (fun wz => ntt_Log_no (n : Int) wz (fun k hk he => h k hk (by exact_mod_cast he)))
  clear h
  go_enter Tryd.func20, Tryd.ntmps20
  go_wp2_with fail
  refine (HV.out _).mono ?_
  rintro e w' ⟨rfl, rfl⟩
  go_wp2_with fail
  refine (HL.out _).mono ?_
  rintro e w' ⟨rfl, rfl⟩
  go_wp2_with fail
  go_ret2
  exact ⟨rfl, Below.refl _ _⟩
end

end Go.Proofs.YtfhmineolncefaaDoor
