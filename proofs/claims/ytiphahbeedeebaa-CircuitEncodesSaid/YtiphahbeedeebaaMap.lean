/-
  WALK: circuit.Valid.
-/
/-
  WALKS: tallymanlaw10.Awake; Small.Circuit.
-/
/-
  THE LAW ON REGIONS from whatever is known; what is known may be given up for less at a store (into an older block).
-/
import Derived.Test.YtiphahbeedeebaaMao
namespace Go.Proofs.Ytiphahbeedeebaa
open Go.RowKit Fm
set_option linter.unusedVariables false
set_option maxRecDepth 100000

theorem lohi_eq {f : Nat} (x y : Fin (Pm f)) : (lo x == lo y && hi x == hi y) = decide (x = y) := by
  by_cases h : x = y
  · subst h
    simp
  · rw [decide_eq_false h, Bool.and_eq_false_iff, beq_eq_false_iff_ne, beq_eq_false_iff_ne]
    by_cases h0 : lo x = lo y
    · exact .inr fun h1 => h (lohi_inj h0 h1)
    · exact .inl h0

/-- is a vector right? -/
def okBits {f : Nat} (l : KL f) : Prop := ∀ x, x ∈ l → x = 0 ∨ x = 1
def okRest {f : Nat} (y : CK) (l : KL f) : Prop :=
  match y with
  | .hist _ _ => ksum l = 1
  | .multi n m _ => ksum (l.take n) + nK f (offN m) = knum (l.drop n)
  | _ => True
def okVec {f : Nat} (y : CK) (l : KL f) : Prop := okBits l ∧ okRest y l

/-- a test's answer comes back -/
def RetTest (p : Prop) (w : World) (e : Ending) (w' : World) : Prop := (∃ b : Bool, e = .returned (.bool b) ∧ (b = true ↔ p)) ∧ Below w.heap.size w w'

theorem okBits_take {f : Nat} {l : KL f} {k : Nat} {x : Fin (Pm f)} (h : l[k]? = some x) (ha : okBits (l.take k)) (hx : x = 0 ∨ x = 1) : okBits (l.take (k + 1)) := by
  intro z hz
  rw [List.take_add_one, h] at hz
  rcases List.mem_append.1 hz with h1 | h1
  · exact ha z h1
  · have : z = x := by simpa using h1
    subst this
    exact hx

theorem SlK.takeN {f : Nat} {w : World} {B : Nat} {A : Option Addr} {c : Nat} {l : KL f} {n : Nat} (h : SlK w B (.slice A l.length c) l) (hn : n ≤ l.length) (v : Value) (hv : v = .slice A n c) : SlK w B v (l.take n) := by
  obtain ⟨A', c', hh, h1, h2, h3⟩ := h
  injection hh with e1 e2 e3
  subst e1
  subst e3
  have hl : (l.take n).length = n := by rw [List.length_take]; omega
  refine ⟨A, c, by rw [hl]; exact hv, by omega, h2, fun h0 => ?_⟩
  rw [hl] at h0
  obtain ⟨b, o, hA, hB, hr⟩ := h3 (by omega)
  refine ⟨b, o, hA, hB, fun i e hi => hr i e ?_⟩
  unfold esK at hi ⊢
  rw [List.map_take] at hi
  rw [← hi, List.getElem?_take]
  split
  · rfl
  · rename_i hge
    rw [List.getElem?_take, if_neg hge] at hi
    cases hi

theorem SlK.dropN {f : Nat} {w : World} {B b o : Nat} {c : Nat} {l : KL f} {n : Nat} (h : SlK w B (.slice (some ⟨b, o, none⟩) l.length c) l) (hn : n < l.length) : SlK w B (.slice (some ⟨b, o + n * 2, none⟩) (l.length - n) (c - n)) (l.drop n) := by
  obtain ⟨A', c', hh, h1, h2, h3⟩ := h
  injection hh with e1 e2 e3
  subst e1
  subst e3
  have hl : (l.drop n).length = l.length - n := List.length_drop
  refine ⟨some ⟨b, o + n * 2, none⟩, c - n, by rw [hl], by omega, by omega, fun h0 => ?_⟩
  obtain ⟨b', o', hA, hB, hr⟩ := h3 (by omega)
  injection hA with hA
  injection hA with hb ho
  subst hb
  subst ho
  refine ⟨b, o + n * 2, rfl, hB, fun i e hi => ?_⟩
  unfold esK at hi
  rw [List.map_drop, List.getElem?_drop] at hi
  have h4 := hr (n + i) e hi
  rw [show o + n * 2 + i * 2 = o + (n + i) * 2 by omega]
  exact h4

section
variable {f : Nat} (hf : IsF f)
include hf

set_option maxHeartbeats 8000000 in
theorem circuit_Valid (y : CK) (hy : y.ok) (hcalls : ¬ 511 < y.calls) (vl : Value) (l : KL f) (w : World) (hl : SlK w w.heap.size vl l) (hlen : l.length = y.nin) :
    Calls Try.prog 42 #[y.val f, vl] w (RetTest (okVec y l) w) := by
  have HC : Hid (∀ wz, Calls Try.prog 59 #[y.val f] wz (RetC 0 wz)) := by
    intro wz
    have h := circuit_Check_ok hf y hy wz
    rwa [CK.code_ok hcalls] at h
  have HI := Lib.hid (fun wz => circuit_In f y hy wz)
  have HONE := Lib.hid (fun wz => field_One hf wz)
  have hnin := CK.nin_le hy
  have heq := eql_elem
  have hneq := neq_elem
  have hfb0 : (1 : Int) ≤ (f : Int) := by rcases hf.or with rfl | rfl <;> omega
  have hfb1 : (f : Int) ≤ 2 := by rcases hf.or with rfl | rfl <;> omega
  have HSL := Lib.hid hl
  obtain ⟨A, cc, rfl, hcc, hcm, hA⟩ := hl
  have HL := Lib.hid hlen
  unfold CK.val at HC HI ⊢
  obtain ⟨K, hK⟩ : ∃ K : Int, ((y.k : Nat) : Int) = K := ⟨_, rfl⟩
  obtain ⟨B, hB⟩ : ∃ K : Int, ((y.b : Nat) : Int) = K := ⟨_, rfl⟩
  obtain ⟨N, hN⟩ : ∃ K : Int, ((y.l : Nat) : Int) = K := ⟨_, rfl⟩
  obtain ⟨M, hM⟩ : ∃ K : Int, ((y.m : Nat) : Int) = K := ⟨_, rfl⟩
  obtain ⟨C, hC⟩ : ∃ K : Int, ((y.c : Nat) : Int) = K := ⟨_, rfl⟩
  rw [hK, hB, hN, hM, hC] at HC HI ⊢
  have HK := Lib.hid hK
  have HB := Lib.hid hB
  have HN := Lib.hid hN
  have HM := Lib.hid hM
  have HCC := Lib.hid hC
  rw [← hlen] at HI
  have hll : l.length ≤ 2048 := by rw [hlen]; exact hnin
  clear hK hB hN hM hC hlen hnin hcalls
  have hb00 : Below w.heap.size w w := Below.refl _ _
  go_enter Try.func42, Try.ntmps42
  go_upto_region 1 with fail
  have hx := Vs.new w [.int .u8 K, .int .u8 f, .int .i64 B, .int .i64 N, .int .i64 M, .int .i64 C] #[.int .u8 K, .int .u8 f, .int .i64 B, .int .i64 N, .int .i64 M, .int .i64 C] 60 rfl
  have hbA : Below w.heap.size w (w.alloc (.cells #[.int .u8 K, .int .u8 f, .int .i64 B, .int .i64 N, .int .i64 M, .int .i64 C] 60)) := by repeat (first | exact Below.refl _ _ | with_reducible assumption | (refine bl_alloc ?_ (Nat.le_refl _) _))
  replace hb00 := bl_call hb00 (Nat.le_refl _) hbA
  clear hbA
  generalize w.alloc (.cells #[.int .u8 K, .int .u8 f, .int .i64 B, .int .i64 N, .int .i64 M, .int .i64 C] 60) = w1 at hb00 hx ⊢
  obtain ⟨⟨x0, x1, x2, x3, x4, x5⟩, ⟨x6, x7, x8, x9, x10, x11⟩, x12⟩ := hx.get6
  have hxl : w.heap.size < w1.heap.size := hx.lt
  go_upto_region 4 with (first
    | (go_at_call 59; refine (HC.out _).mono ?_; rintro e w2 ⟨rfl, hb2⟩; replace hb00 := bl_call hb00 (Nat.le_refl _) hb2; replace hx := hx.call hb2; obtain ⟨⟨x0, x1, x2, x3, x4, x5⟩, ⟨x6, x7, x8, x9, x10, x11⟩, x12⟩ := hx.get6)
    | (go_at_call 45; refine (HI.out _).mono ?_; rintro e w3 ⟨rfl, hb3⟩; replace hb00 := bl_call hb00 (Nat.le_refl _) hb3; replace hx := hx.call hb3; obtain ⟨⟨x0, x1, x2, x3, x4, x5⟩, ⟨x6, x7, x8, x9, x10, x11⟩, x12⟩ := hx.get6))
  have hsz : w.heap.size + 1 ≤ w3.heap.size := hx.lt
  clear HC HI hb2 hb3
  clear x0 x1 x2 x3 x4 x5 x6 x7 x8 x9 x10 x11 x12
  go_wp2_with fail
  go_loopw [22] (fun i wr => ∃ k : Nat, k ≤ l.length ∧ i = .int .i64 k ∧ Hid (okBits (l.take k)) ∧ Vs wr w.heap.size [.int .u8 K, .int .u8 f, .int .i64 B, .int .i64 N, .int .i64 M, .int .i64 C] ∧ Below w.heap.size w wr) (fun i _ => l.length - (intOf i).toNat)
  case atStart => exact ⟨0, Nat.zero_le _, rfl, fun x h => (by simp at h), hx, hb00⟩
  case round =>
    clear hx hb00 hsz hxl
    obtain ⟨k, hk, rfl, hbits, hx, hbw⟩ := hrel
    obtain ⟨⟨x0, x1, x2, x3, x4, x5⟩, ⟨x6, x7, x8, x9, x10, x11⟩, x12⟩ := hx.get6
    by_cases hlt : k < l.length
    · obtain ⟨b, o, rfl, hBb, hr⟩ := hA (by omega)
      obtain ⟨x, he⟩ : ∃ e, l[k]? = some e := ⟨_, List.getElem?_eq_getElem hlt⟩
      obtain ⟨d0, d1⟩ := (hr.below hbw hBb).kat he
      have hbl : b < wr.heap.size := Nat.lt_of_lt_of_le hBb hbw.size
      have HE := Lib.hid he
      have HNX := Lib.hid (fun h => okBits_take he hbits.out h)
      clear he hr hA
      go_upto_region 7 with fail
      clear x0 x1 x2 x3 x4 x5 x6 x7 x8 x9 x10 x11 x12
      have hv := V2.new wr (.int .u64 (lo x)) (.int .u64 (hi x)) 41
      have hbA : Below wr.heap.size wr (wr.alloc (.cells #[.int .u64 (lo x), .int .u64 (hi x)] 41)) := by repeat (first | exact Below.refl _ _ | with_reducible assumption | (refine bl_alloc ?_ (Nat.le_refl _) _))
      replace hbw := bl_call hbw (Nat.le_refl _) hbA
      replace hx := hx.call hbA
      clear hbA
      generalize wr.alloc (.cells #[.int .u64 (lo x), .int .u64 (hi x)] 41) = w4 at hbw hx hv ⊢
      obtain ⟨⟨x0, x1, x2, x3, x4, x5⟩, ⟨x6, x7, x8, x9, x10, x11⟩, x12⟩ := hx.get6
      obtain ⟨v0, v1, v2, v3, v4⟩ := V2.mk hv.c0 hv.c1 hv.f0 hv.f1 hv.lt
      have hl0 := lohi_zero x
      have hl1 := lohi_eq x 1
      by_cases h0 : x = 0
      · rw [decide_eq_true h0] at hl0
        have HX := Lib.hid (HNX.out (.inl h0))
        clear hl1 h0
        refine region_B (n := 8) (m := 9) (f := 8) (by kernel_rfl) (by kernel_rfl) rfl ?_
        refine WpH.takeD 0 (some 26) (v := ?_) rfl rfl (by kernel_rfl) (fun _ _ _ h => h) (.val rfl (fun wz hwz => ?_)) ?_
        rotate_left
        · (obtain ⟨hcz, hfz⟩ := bcell hwz; go_simp; try (with_reducible rfl))
        (simp only [Act.put]); (try simp only [List.setIfInBounds_toArray]); (try simp only [List.set_cons_succ]); (try simp only [List.set_cons_zero])
        refine WpH.takeD 1 (some 27) (v := ?_) rfl rfl (by kernel_rfl) (fun _ _ _ h => h) (.val rfl (fun wz hwz => ?_)) ?_
        rotate_left
        · go_simp; try (with_reducible rfl)
        (simp only [Act.put]); (try simp only [List.setIfInBounds_toArray]); (try simp only [List.set_cons_succ]); (try simp only [List.set_cons_zero])
        refine WpH.takeD 2 (some 28) (v := ?_) rfl rfl (by kernel_rfl) (fun _ _ _ h => h) (.val rfl (fun wz hwz => ?_)) ?_
        rotate_left
        · go_simp; try (with_reducible rfl)
        (simp only [Act.put]); (try simp only [List.setIfInBounds_toArray]); (try simp only [List.set_cons_succ]); (try simp only [List.set_cons_zero])
        refine WpH.takeD 3 (some 29) (v := ?_) rfl rfl (by kernel_rfl) (fun _ _ _ h => h) (.val rfl (fun wz hwz => ?_)) ?_
        rotate_left
        · go_simp; try (with_reducible rfl)
        (simp only [Act.put]); (try simp only [List.setIfInBounds_toArray]); (try simp only [List.set_cons_succ]); (try simp only [List.set_cons_zero])
        refine WpH.takeD 4 (some 30) rfl rfl (by kernel_rfl) (fun _ _ _ h => h) (.skip rfl) ?_
        (simp only [Act.put]); (try simp only [List.setIfInBounds_toArray]); (try simp only [List.set_cons_succ]); (try simp only [List.set_cons_zero])
        refine WpH.takeD 5 (some 31) rfl rfl (by kernel_rfl) (fun _ _ _ h => h) (.skip rfl) ?_
        (simp only [Act.put]); (try simp only [List.setIfInBounds_toArray]); (try simp only [List.set_cons_succ]); (try simp only [List.set_cons_zero])
        refine WpH.takeD 6 (some 32) rfl rfl (by kernel_rfl) (fun _ _ _ h => h) (.skip rfl) ?_
        (simp only [Act.put]); (try simp only [List.setIfInBounds_toArray]); (try simp only [List.set_cons_succ]); (try simp only [List.set_cons_zero])
        refine WpH.takeD 7 (some 33) rfl rfl (by kernel_rfl) (fun _ _ _ h => h) (.skip rfl) ?_
        (simp only [Act.put]); (try simp only [List.setIfInBounds_toArray]); (try simp only [List.set_cons_succ]); (try simp only [List.set_cons_zero])
        refine WpH.doneB (by kernel_rfl) (fun w6 hw6 => ?_)
        (try simp only [List.drop_succ_cons]); (try simp only [List.drop_zero]); (try simp only [Nat.reduceSub]); (try simp only [List.take_succ_cons]); (try simp only [List.take_zero])
        clear x0 x1 x2 x3 x4 x5 x6 x7 x8 x9 x10 x11 x12 v0 v1 v2 v3 v4
        replace hbw := bl_call hbw (Nat.le_refl _) hw6
        replace hx := hx.call hw6
        replace hv := hv.call hw6
        obtain ⟨⟨x0, x1, x2, x3, x4, x5⟩, ⟨x6, x7, x8, x9, x10, x11⟩, x12⟩ := hx.get6
        obtain ⟨v0, v1, v2, v3, v4⟩ := V2.mk hv.c0 hv.c1 hv.f0 hv.f1 hv.lt
        go_wp2_with fail
        go_roundw
        case rel => exact ⟨k + 1, by omega, by go_num, HX.out, hx, hbw⟩
        case measure => simp [intOf]; omega
      · rw [decide_eq_false h0] at hl0
        by_cases h1 : x = 1
        · rw [decide_eq_true h1] at hl1
          have HX := Lib.hid (HNX.out (.inr h1))
          clear h0 h1
          refine region_B (n := 8) (m := 9) (f := 8) (by kernel_rfl) (by kernel_rfl) rfl ?_
          refine WpH.takeD 0 (some 26) (v := ?_) rfl rfl (by kernel_rfl) (fun _ _ _ h => h) (.val rfl (fun wz hwz => ?_)) ?_
          rotate_left
          · (obtain ⟨hcz, hfz⟩ := bcell hwz; go_simp; try (with_reducible rfl))
          (simp only [Act.put]); (try simp only [List.setIfInBounds_toArray]); (try simp only [List.set_cons_succ]); (try simp only [List.set_cons_zero])
          refine WpH.takeD 1 (some 27) (v := ?_) rfl rfl (by kernel_rfl) (fun _ _ _ h => h) (.val rfl (fun wz hwz => ?_)) ?_
          rotate_left
          · go_simp; try (with_reducible rfl)
          (simp only [Act.put]); (try simp only [List.setIfInBounds_toArray]); (try simp only [List.set_cons_succ]); (try simp only [List.set_cons_zero])
          refine WpH.takeD 2 (some 28) (v := ?_) rfl rfl (by kernel_rfl) (fun _ _ _ h => h) (.val rfl (fun wz hwz => ?_)) ?_
          rotate_left
          · go_simp; try (with_reducible rfl)
          (simp only [Act.put]); (try simp only [List.setIfInBounds_toArray]); (try simp only [List.set_cons_succ]); (try simp only [List.set_cons_zero])
          refine WpH.takeD 3 (some 29) (v := ?_) rfl rfl (by kernel_rfl) (fun _ _ _ h => h) (.val rfl (fun wz hwz => ?_)) ?_
          rotate_left
          · go_simp; try (with_reducible rfl)
          (simp only [Act.put]); (try simp only [List.setIfInBounds_toArray]); (try simp only [List.set_cons_succ]); (try simp only [List.set_cons_zero])
          refine WpH.takeD 4 (some 30) (v := ?_) rfl rfl (by kernel_rfl) (fun _ _ _ h => h) (.val rfl (fun wz hwz => ?_)) ?_
          rotate_left
          · (obtain ⟨hcz, hfz⟩ := bcell hwz; go_simp; try (with_reducible rfl))
          (simp only [Act.put]); (try simp only [List.setIfInBounds_toArray]); (try simp only [List.set_cons_succ]); (try simp only [List.set_cons_zero])
          refine WpH.takeD 5 (some 31) (v := ?_) rfl rfl (by kernel_rfl) (fun _ _ _ h => h) (.val rfl (fun wz hwz => ?_)) ?_
          rotate_left
          · go_simp; try (with_reducible rfl)
          (simp only [Act.put]); (try simp only [List.setIfInBounds_toArray]); (try simp only [List.set_cons_succ]); (try simp only [List.set_cons_zero])
          refine WpH.takeD 6 (some 32) rfl rfl (by kernel_rfl) (fun _ _ _ h => h) (.call rfl (fun wz hwz => HONE.out wz) (fun wz hwz => ?_)) ?_
          · go_simp; try (with_reducible rfl)
          (simp only [Act.put]); (try simp only [List.setIfInBounds_toArray]); (try simp only [List.set_cons_succ]); (try simp only [List.set_cons_zero])
          refine WpH.takeD 7 (some 33) (v := ?_) rfl rfl (by kernel_rfl) (fun _ _ _ h => h) (.val rfl (fun wz hwz => ?_)) ?_
          rotate_left
          · go_simp; try (with_reducible rfl)
          (simp only [Act.put]); (try simp only [List.setIfInBounds_toArray]); (try simp only [List.set_cons_succ]); (try simp only [List.set_cons_zero])
          refine WpH.doneB (by kernel_rfl) (fun w6 hw6 => ?_)
          (try simp only [List.drop_succ_cons]); (try simp only [List.drop_zero]); (try simp only [Nat.reduceSub]); (try simp only [List.take_succ_cons]); (try simp only [List.take_zero])
          clear x0 x1 x2 x3 x4 x5 x6 x7 x8 x9 x10 x11 x12 v0 v1 v2 v3 v4
          replace hbw := bl_call hbw (Nat.le_refl _) hw6
          replace hx := hx.call hw6
          replace hv := hv.call hw6
          obtain ⟨⟨x0, x1, x2, x3, x4, x5⟩, ⟨x6, x7, x8, x9, x10, x11⟩, x12⟩ := hx.get6
          obtain ⟨v0, v1, v2, v3, v4⟩ := V2.mk hv.c0 hv.c1 hv.f0 hv.f1 hv.lt
          go_wp2_with fail
          go_roundw
          case rel => exact ⟨k + 1, by omega, by go_num, HX.out, hx, hbw⟩
          case measure => simp [intOf]; omega
        · rw [decide_eq_false h1] at hl1
          have hbad : ¬ okVec y l := fun h => (h.1 x (List.mem_of_getElem? HE.out)).elim h0 h1
          have HBAD := Lib.hid hbad
          clear h0 h1 hbad
          refine region_B (n := 8) (m := 9) (f := 8) (by kernel_rfl) (by kernel_rfl) rfl ?_
          refine WpH.takeD 0 (some 26) (v := ?_) rfl rfl (by kernel_rfl) (fun _ _ _ h => h) (.val rfl (fun wz hwz => ?_)) ?_
          rotate_left
          · (obtain ⟨hcz, hfz⟩ := bcell hwz; go_simp; try (with_reducible rfl))
          (simp only [Act.put]); (try simp only [List.setIfInBounds_toArray]); (try simp only [List.set_cons_succ]); (try simp only [List.set_cons_zero])
          refine WpH.takeD 1 (some 27) (v := ?_) rfl rfl (by kernel_rfl) (fun _ _ _ h => h) (.val rfl (fun wz hwz => ?_)) ?_
          rotate_left
          · go_simp; try (with_reducible rfl)
          (simp only [Act.put]); (try simp only [List.setIfInBounds_toArray]); (try simp only [List.set_cons_succ]); (try simp only [List.set_cons_zero])
          refine WpH.takeD 2 (some 28) (v := ?_) rfl rfl (by kernel_rfl) (fun _ _ _ h => h) (.val rfl (fun wz hwz => ?_)) ?_
          rotate_left
          · go_simp; try (with_reducible rfl)
          (simp only [Act.put]); (try simp only [List.setIfInBounds_toArray]); (try simp only [List.set_cons_succ]); (try simp only [List.set_cons_zero])
          refine WpH.takeD 3 (some 29) (v := ?_) rfl rfl (by kernel_rfl) (fun _ _ _ h => h) (.val rfl (fun wz hwz => ?_)) ?_
          rotate_left
          · go_simp; try (with_reducible rfl)
          (simp only [Act.put]); (try simp only [List.setIfInBounds_toArray]); (try simp only [List.set_cons_succ]); (try simp only [List.set_cons_zero])
          refine WpH.takeD 4 (some 30) (v := ?_) rfl rfl (by kernel_rfl) (fun _ _ _ h => h) (.val rfl (fun wz hwz => ?_)) ?_
          rotate_left
          · (obtain ⟨hcz, hfz⟩ := bcell hwz; go_simp; try (with_reducible rfl))
          (simp only [Act.put]); (try simp only [List.setIfInBounds_toArray]); (try simp only [List.set_cons_succ]); (try simp only [List.set_cons_zero])
          refine WpH.takeD 5 (some 31) (v := ?_) rfl rfl (by kernel_rfl) (fun _ _ _ h => h) (.val rfl (fun wz hwz => ?_)) ?_
          rotate_left
          · go_simp; try (with_reducible rfl)
          (simp only [Act.put]); (try simp only [List.setIfInBounds_toArray]); (try simp only [List.set_cons_succ]); (try simp only [List.set_cons_zero])
          refine WpH.takeD 6 (some 32) rfl rfl (by kernel_rfl) (fun _ _ _ h => h) (.call rfl (fun wz hwz => HONE.out wz) (fun wz hwz => ?_)) ?_
          · go_simp; try (with_reducible rfl)
          (simp only [Act.put]); (try simp only [List.setIfInBounds_toArray]); (try simp only [List.set_cons_succ]); (try simp only [List.set_cons_zero])
          refine WpH.takeD 7 (some 33) (v := ?_) rfl rfl (by kernel_rfl) (fun _ _ _ h => h) (.val rfl (fun wz hwz => ?_)) ?_
          rotate_left
          · go_simp; try (with_reducible rfl)
          (simp only [Act.put]); (try simp only [List.setIfInBounds_toArray]); (try simp only [List.set_cons_succ]); (try simp only [List.set_cons_zero])
          refine WpH.doneB (by kernel_rfl) (fun w6 hw6 => ?_)
          (try simp only [List.drop_succ_cons]); (try simp only [List.drop_zero]); (try simp only [Nat.reduceSub]); (try simp only [List.take_succ_cons]); (try simp only [List.take_zero])
          clear x0 x1 x2 x3 x4 x5 x6 x7 x8 x9 x10 x11 x12 v0 v1 v2 v3 v4
          replace hbw := bl_call hbw (Nat.le_refl _) hw6
          replace hx := hx.call hw6
          replace hv := hv.call hw6
          go_wp2_with fail
          go_ret
          exact ⟨⟨false, rfl, by simp; exact HBAD.out⟩, hbw⟩
    · obtain rfl : k = l.length := by omega
      rw [List.take_length] at hbits
      clear hlt hA
      cases y with
      | count =>
        obtain rfl : K = 1 := HK.out.symm
        go_wp2_with fail
        go_ret
        exact ⟨⟨true, rfl, by simp; exact ⟨hbits.out, trivial⟩⟩, hbw⟩
      | sum _ =>
        obtain rfl : K = 2 := HK.out.symm
        go_wp2_with fail
        go_ret
        exact ⟨⟨true, rfl, by simp; exact ⟨hbits.out, trivial⟩⟩, hbw⟩
      | vec _ _ _ =>
        obtain rfl : K = 3 := HK.out.symm
        go_wp2_with fail
        go_ret
        exact ⟨⟨true, rfl, by simp; exact ⟨hbits.out, trivial⟩⟩, hbw⟩
      | hist n c =>
        obtain rfl : K = 4 := HK.out.symm
        have HSUM := Lib.hid (fun wz (hb : Below w.heap.size w wz) => field_SumK hf _ l wz (HSL.out.later hb) (by omega))
        have hl1 := lohi_eq (ksum l) 1
        by_cases h1 : ksum l = 1
        · rw [decide_eq_true h1] at hl1
          have H1 := Lib.hid h1
          clear h1
          go_wp2_with (first
            | (go_at_call 102; refine (HSUM.out _ hbw).mono ?_; rintro e w5 ⟨rfl, hb5⟩; replace hbw := bl_call hbw (Nat.le_refl _) hb5; replace hx := hx.call hb5; obtain ⟨⟨x0, x1, x2, x3, x4, x5⟩, ⟨x6, x7, x8, x9, x10, x11⟩, x12⟩ := hx.get6)
            | (go_at_call 53; refine (HONE.out _).mono ?_; rintro e w6 ⟨rfl, hb6⟩; replace hbw := bl_call hbw (Nat.le_refl _) hb6; replace hx := hx.call hb6; obtain ⟨⟨x0, x1, x2, x3, x4, x5⟩, ⟨x6, x7, x8, x9, x10, x11⟩, x12⟩ := hx.get6))
          exact bodyPost_ret (v := .bool true) (by simp [results, Try.results42, go_sem]) rfl ⟨⟨true, rfl, by simp; exact ⟨hbits.out, H1.out⟩⟩, hbw⟩
        · rw [decide_eq_false h1] at hl1
          have H1 := Lib.hid h1
          clear h1
          go_wp2_with (first
            | (go_at_call 102; refine (HSUM.out _ hbw).mono ?_; rintro e w5 ⟨rfl, hb5⟩; replace hbw := bl_call hbw (Nat.le_refl _) hb5; replace hx := hx.call hb5; obtain ⟨⟨x0, x1, x2, x3, x4, x5⟩, ⟨x6, x7, x8, x9, x10, x11⟩, x12⟩ := hx.get6)
            | (go_at_call 53; refine (HONE.out _).mono ?_; rintro e w6 ⟨rfl, hb6⟩; replace hbw := bl_call hbw (Nat.le_refl _) hb6; replace hx := hx.call hb6; obtain ⟨⟨x0, x1, x2, x3, x4, x5⟩, ⟨x6, x7, x8, x9, x10, x11⟩, x12⟩ := hx.get6))
          exact bodyPost_ret (v := .bool false) (by simp [results, Try.results42, go_sem]) rfl ⟨⟨false, rfl, by simp; exact fun h => H1.out h.2⟩, hbw⟩
      | multi n m c =>
        obtain rfl : K = 5 := HK.out.symm
        obtain rfl : N = (n : Int) := HN.out.symm
        obtain rfl : M = (m : Int) := HM.out.symm
        have hm64 : m ≤ 64 := Nat.le_trans hy.2.1.2 hy.1.2
        have hln : n ≤ l.length := by rw [HL.out]; exact Nat.le_add_right _ _
        have hn64 : n ≤ 64 := hy.1.2
        have hn0 : (0 : Int) ≤ (n : Int) := by omega
        have hnl : (n : Int) ≤ (l.length : Int) := by omega
        have hnc : n ≤ cc := by omega
        have hlc : l.length ≤ cc := hcc
        have HOFF := Lib.hid (fun wz => circuit_offset 5 f B n C m hm64 wz)
        have HOFV := Lib.hid (fun wz => field_Of hf (offN m : Int) wz (by omega) (by have h1 := (bitLen_small m hm64).1; have h2 : 2 ^ Lib.bitLen m ≤ 2 ^ 7 := Nat.pow_le_pow_right (by omega) h1; have h3 : (2 : Nat) ^ 7 = 128 := rfl; show ((2 ^ Lib.bitLen m - 1 - m : Nat) : Int) ≤ _; omega))
        rw [show kL f (offN m : Int) 0 = nK f (offN m) from rfl] at HOFV
        have HS1 := Lib.hid (fun wz (hb : Below w.heap.size w wz) => field_SumK hf _ (l.take n) wz (SlK.takeN (HSL.out.later hb) hln (.slice A n cc) rfl) (by rw [List.length_take]; omega))
        obtain ⟨of, hof⟩ : ∃ of, offN m = of := ⟨_, rfl⟩
        rw [hof] at HOFF HOFV
        have HOF2 := Lib.hid hof.symm
        clear hof
        have hbq : 1 ≤ Lib.bitLen m := (bitLen_small m hm64).2.2 hy.2.1.1
        have hlt2 : n < l.length := by rw [HL.out]; show n < n + Lib.bitLen m; omega
        obtain ⟨A', c', hh, _, _, h3⟩ := HSL.out
        injection hh with e1 _ e3
        subst e1 e3
        obtain ⟨b, o, rfl, hBb, hr⟩ := h3 (by omega)
        have hne : ¬ (cc = n) := by omega
        clear h3 hr hbq
        have HNM := Lib.hid (fun wz (hb : Below w.heap.size w wz) => circuit_number hf 5 B (m : Int) C (n : Int) _ (l.drop n) wz (SlK.dropN (HSL.out.later hb) hlt2) (by rw [List.length_drop]; omega))
        have hl1 := lohi_eq (ksum (l.take n) + nK f of) (knum (l.drop n))
        have HOK : Hid (okRest (.multi n m c) l ↔ ksum (l.take n) + nK f of = knum (l.drop n)) := by rw [HOF2.out]; exact Iff.rfl
        generalize ksum (l.take n) = S1 at *
        generalize knum (l.drop n) = S2 at *
        by_cases h1 : S1 + nK f of = S2
        · rw [decide_eq_true h1] at hl1
          have hgood : okVec (.multi n m c) l := ⟨hbits.out, HOK.out.2 h1⟩
          have HG := Lib.hid hgood
          clear h1 hgood hy
          go_upto_region 14 with fail
          refine region_B (n := 19) (m := 20) (f := 19) (by kernel_rfl) (by kernel_rfl) rfl ?_
          refine WpH.takeD 0 (some 48) (v := ?_) rfl rfl (by kernel_rfl) (fun _ _ _ h => h) (.val rfl (fun wz hwz => ?_)) ?_
          rotate_left
          · go_simp; try (with_reducible rfl)
          (simp only [Act.put]); (try simp only [List.setIfInBounds_toArray]); (try simp only [List.set_cons_succ]); (try simp only [List.set_cons_zero])
          refine WpH.takeD 1 (some 49) (v := ?_) rfl rfl (by kernel_rfl) (fun _ _ _ h => h) (.val rfl (fun wz hwz => ?_)) ?_
          rotate_left
          · go_simp; try (with_reducible rfl)
          (simp only [Act.put]); (try simp only [List.setIfInBounds_toArray]); (try simp only [List.set_cons_succ]); (try simp only [List.set_cons_zero])
          refine WpH.takeD 2 (some 50) (v := ?_) rfl rfl (by kernel_rfl) (fun _ _ _ h => h) (.val rfl (fun wz hwz => ?_)) ?_
          rotate_left
          · go_simp; try (with_reducible rfl)
          (simp only [Act.put]); (try simp only [List.setIfInBounds_toArray]); (try simp only [List.set_cons_succ]); (try simp only [List.set_cons_zero])
          refine WpH.takeD 3 (some 51) (v := ?_) rfl rfl (by kernel_rfl) (fun _ _ _ h => h) (.val rfl (fun wz hwz => ?_)) ?_
          rotate_left
          · go_simp; try (with_reducible rfl)
          (simp only [Act.put]); (try simp only [List.setIfInBounds_toArray]); (try simp only [List.set_cons_succ]); (try simp only [List.set_cons_zero])
          refine WpH.takeD 4 (some 52) (v := ?_) rfl rfl (by kernel_rfl) (fun _ _ _ h => h) (.val rfl (fun wz hwz => ?_)) ?_
          rotate_left
          · (obtain ⟨hcz, hfz⟩ := bcell hwz; go_simp; try (with_reducible rfl))
          (simp only [Act.put]); (try simp only [List.setIfInBounds_toArray]); (try simp only [List.set_cons_succ]); (try simp only [List.set_cons_zero])
          refine WpH.takeD 5 (some 53) (v := ?_) rfl rfl (by kernel_rfl) (fun _ _ _ h => h) (.val rfl (fun wz hwz => ?_)) ?_
          rotate_left
          · go_simp; try (with_reducible rfl)
          (simp only [Act.put]); (try simp only [List.setIfInBounds_toArray]); (try simp only [List.set_cons_succ]); (try simp only [List.set_cons_zero])
          refine WpH.takeD 6 (some 54) rfl rfl (by kernel_rfl) (fun _ _ _ h => h) (.call rfl (fun wz hwz => HS1.out wz (hbw.trans (hwz.mono hbw.size))) (fun wz hwz => ?_)) ?_
          · go_simp; try (with_reducible rfl)
          (simp only [Act.put]); (try simp only [List.setIfInBounds_toArray]); (try simp only [List.set_cons_succ]); (try simp only [List.set_cons_zero])
          refine WpH.takeD 7 (some 55) (v := ?_) rfl rfl (by kernel_rfl) (fun _ _ _ h => h) (.val rfl (fun wz hwz => ?_)) ?_
          rotate_left
          · go_simp; try (with_reducible rfl)
          (simp only [Act.put]); (try simp only [List.setIfInBounds_toArray]); (try simp only [List.set_cons_succ]); (try simp only [List.set_cons_zero])
          refine WpH.takeD 8 (some 56) (v := ?_) rfl rfl (by kernel_rfl) (fun _ _ _ h => h) (.val rfl (fun wz hwz => ?_)) ?_
          rotate_left
          · (obtain ⟨hcz, hfz⟩ := bcell hwz; go_simp; try (with_reducible rfl))
          (simp only [Act.put]); (try simp only [List.setIfInBounds_toArray]); (try simp only [List.set_cons_succ]); (try simp only [List.set_cons_zero])
          refine WpH.takeD 9 (some 57) rfl rfl (by kernel_rfl) (fun _ _ _ h => h) (.call rfl (fun wz hwz => HOFF.out wz) (fun wz hwz => ?_)) ?_
          · go_simp; try (with_reducible rfl)
          (simp only [Act.put]); (try simp only [List.setIfInBounds_toArray]); (try simp only [List.set_cons_succ]); (try simp only [List.set_cons_zero])
          refine WpH.takeD 10 (some 58) rfl rfl (by kernel_rfl) (fun _ _ _ h => h) (.call rfl (fun wz hwz => HOFV.out wz) (fun wz hwz => ?_)) ?_
          · go_simp; try (with_reducible rfl)
          (simp only [Act.put]); (try simp only [List.setIfInBounds_toArray]); (try simp only [List.set_cons_succ]); (try simp only [List.set_cons_zero])
          refine WpH.takeD 11 (some 59) rfl rfl (by kernel_rfl) (fun _ _ _ h => h) (.call rfl (fun wz hwz => field_AddK hf S1 (nK f of) wz) (fun wz hwz => ?_)) ?_
          · go_simp; try (with_reducible rfl)
          (simp only [Act.put]); (try simp only [List.setIfInBounds_toArray]); (try simp only [List.set_cons_succ]); (try simp only [List.set_cons_zero])
          refine WpH.takeD 12 (some 60) (v := ?_) rfl rfl (by kernel_rfl) (fun _ _ _ h => h) (.val rfl (fun wz hwz => ?_)) ?_
          rotate_left
          · (obtain ⟨hcz, hfz⟩ := bcell hwz; go_simp; try (with_reducible rfl))
          (simp only [Act.put]); (try simp only [List.setIfInBounds_toArray]); (try simp only [List.set_cons_succ]); (try simp only [List.set_cons_zero])
          refine WpH.takeD 13 (some 61) (v := ?_) rfl rfl (by kernel_rfl) (fun _ _ _ h => h) (.val rfl (fun wz hwz => ?_)) ?_
          rotate_left
          · go_simp; try (with_reducible rfl)
          (simp only [Act.put]); (try simp only [List.setIfInBounds_toArray]); (try simp only [List.set_cons_succ]); (try simp only [List.set_cons_zero])
          refine WpH.takeD 14 (some 62) (v := ?_) rfl rfl (by kernel_rfl) (fun _ _ _ h => h) (.val rfl (fun wz hwz => ?_)) ?_
          rotate_left
          · go_simp; try (with_reducible rfl)
          (simp only [Act.put]); (try simp only [List.setIfInBounds_toArray]); (try simp only [List.set_cons_succ]); (try simp only [List.set_cons_zero])
          refine WpH.takeD 15 (some 63) (v := ?_) rfl rfl (by kernel_rfl) (fun _ _ _ h => h) (.val rfl (fun wz hwz => ?_)) ?_
          rotate_left
          · (obtain ⟨hcz, hfz⟩ := bcell hwz; go_simp; try (with_reducible rfl))
          (simp only [Act.put]); (try simp only [List.setIfInBounds_toArray]); (try simp only [List.set_cons_succ]); (try simp only [List.set_cons_zero])
          refine WpH.takeD 16 (some 64) (v := ?_) rfl rfl (by kernel_rfl) (fun _ _ _ h => h) (.val rfl (fun wz hwz => ?_)) ?_
          rotate_left
          · go_simp; try (with_reducible rfl)
          (simp only [Act.put]); (try simp only [List.setIfInBounds_toArray]); (try simp only [List.set_cons_succ]); (try simp only [List.set_cons_zero])
          refine WpH.takeD 17 (some 65) rfl rfl (by kernel_rfl) (fun _ _ _ h => h) (.call rfl (fun wz hwz => HNM.out wz (hbw.trans (hwz.mono hbw.size))) (fun wz hwz => ?_)) ?_
          · go_simp; try (with_reducible rfl)
          (simp only [Act.put]); (try simp only [List.setIfInBounds_toArray]); (try simp only [List.set_cons_succ]); (try simp only [List.set_cons_zero])
          refine WpH.takeD 18 (some 66) (v := ?_) rfl rfl (by kernel_rfl) (fun _ _ _ h => h) (.val rfl (fun wz hwz => ?_)) ?_
          rotate_left
          · go_simp; try (with_reducible rfl)
          (simp only [Act.put]); (try simp only [List.setIfInBounds_toArray]); (try simp only [List.set_cons_succ]); (try simp only [List.set_cons_zero])
          refine WpH.doneB (by kernel_rfl) (fun w5 hw5 => ?_)
          (try simp only [List.drop_succ_cons]); (try simp only [List.drop_zero]); (try simp only [Nat.reduceSub]); (try simp only [List.take_succ_cons]); (try simp only [List.take_zero])
          clear x0 x1 x2 x3 x4 x5 x6 x7 x8 x9 x10 x11 x12
          replace hbw := bl_call hbw (Nat.le_refl _) hw5
          replace hx := hx.call hw5
          go_wp2_with fail
          exact bodyPost_ret (v := .bool true) (by simp [results, Try.results42, go_sem]) rfl ⟨⟨true, rfl, by simp; exact HG.out⟩, hbw⟩
        · rw [decide_eq_false h1] at hl1
          have hbad : ¬ okVec (.multi n m c) l := fun h => h1 (HOK.out.1 h.2)
          have HG := Lib.hid hbad
          clear h1 hbad hy
          go_upto_region 14 with fail
          refine region_B (n := 19) (m := 20) (f := 19) (by kernel_rfl) (by kernel_rfl) rfl ?_
          refine WpH.takeD 0 (some 48) (v := ?_) rfl rfl (by kernel_rfl) (fun _ _ _ h => h) (.val rfl (fun wz hwz => ?_)) ?_
          rotate_left
          · go_simp; try (with_reducible rfl)
          (simp only [Act.put]); (try simp only [List.setIfInBounds_toArray]); (try simp only [List.set_cons_succ]); (try simp only [List.set_cons_zero])
          refine WpH.takeD 1 (some 49) (v := ?_) rfl rfl (by kernel_rfl) (fun _ _ _ h => h) (.val rfl (fun wz hwz => ?_)) ?_
          rotate_left
          · go_simp; try (with_reducible rfl)
          (simp only [Act.put]); (try simp only [List.setIfInBounds_toArray]); (try simp only [List.set_cons_succ]); (try simp only [List.set_cons_zero])
          refine WpH.takeD 2 (some 50) (v := ?_) rfl rfl (by kernel_rfl) (fun _ _ _ h => h) (.val rfl (fun wz hwz => ?_)) ?_
          rotate_left
          · go_simp; try (with_reducible rfl)
          (simp only [Act.put]); (try simp only [List.setIfInBounds_toArray]); (try simp only [List.set_cons_succ]); (try simp only [List.set_cons_zero])
          refine WpH.takeD 3 (some 51) (v := ?_) rfl rfl (by kernel_rfl) (fun _ _ _ h => h) (.val rfl (fun wz hwz => ?_)) ?_
          rotate_left
          · go_simp; try (with_reducible rfl)
          (simp only [Act.put]); (try simp only [List.setIfInBounds_toArray]); (try simp only [List.set_cons_succ]); (try simp only [List.set_cons_zero])
          refine WpH.takeD 4 (some 52) (v := ?_) rfl rfl (by kernel_rfl) (fun _ _ _ h => h) (.val rfl (fun wz hwz => ?_)) ?_
          rotate_left
          · (obtain ⟨hcz, hfz⟩ := bcell hwz; go_simp; try (with_reducible rfl))
          (simp only [Act.put]); (try simp only [List.setIfInBounds_toArray]); (try simp only [List.set_cons_succ]); (try simp only [List.set_cons_zero])
          refine WpH.takeD 5 (some 53) (v := ?_) rfl rfl (by kernel_rfl) (fun _ _ _ h => h) (.val rfl (fun wz hwz => ?_)) ?_
          rotate_left
          · go_simp; try (with_reducible rfl)
          (simp only [Act.put]); (try simp only [List.setIfInBounds_toArray]); (try simp only [List.set_cons_succ]); (try simp only [List.set_cons_zero])
          refine WpH.takeD 6 (some 54) rfl rfl (by kernel_rfl) (fun _ _ _ h => h) (.call rfl (fun wz hwz => HS1.out wz (hbw.trans (hwz.mono hbw.size))) (fun wz hwz => ?_)) ?_
          · go_simp; try (with_reducible rfl)
          (simp only [Act.put]); (try simp only [List.setIfInBounds_toArray]); (try simp only [List.set_cons_succ]); (try simp only [List.set_cons_zero])
          refine WpH.takeD 7 (some 55) (v := ?_) rfl rfl (by kernel_rfl) (fun _ _ _ h => h) (.val rfl (fun wz hwz => ?_)) ?_
          rotate_left
          · go_simp; try (with_reducible rfl)
          (simp only [Act.put]); (try simp only [List.setIfInBounds_toArray]); (try simp only [List.set_cons_succ]); (try simp only [List.set_cons_zero])
          refine WpH.takeD 8 (some 56) (v := ?_) rfl rfl (by kernel_rfl) (fun _ _ _ h => h) (.val rfl (fun wz hwz => ?_)) ?_
          rotate_left
          · (obtain ⟨hcz, hfz⟩ := bcell hwz; go_simp; try (with_reducible rfl))
          (simp only [Act.put]); (try simp only [List.setIfInBounds_toArray]); (try simp only [List.set_cons_succ]); (try simp only [List.set_cons_zero])
          refine WpH.takeD 9 (some 57) rfl rfl (by kernel_rfl) (fun _ _ _ h => h) (.call rfl (fun wz hwz => HOFF.out wz) (fun wz hwz => ?_)) ?_
          · go_simp; try (with_reducible rfl)
          (simp only [Act.put]); (try simp only [List.setIfInBounds_toArray]); (try simp only [List.set_cons_succ]); (try simp only [List.set_cons_zero])
          refine WpH.takeD 10 (some 58) rfl rfl (by kernel_rfl) (fun _ _ _ h => h) (.call rfl (fun wz hwz => HOFV.out wz) (fun wz hwz => ?_)) ?_
          · go_simp; try (with_reducible rfl)
          (simp only [Act.put]); (try simp only [List.setIfInBounds_toArray]); (try simp only [List.set_cons_succ]); (try simp only [List.set_cons_zero])
          refine WpH.takeD 11 (some 59) rfl rfl (by kernel_rfl) (fun _ _ _ h => h) (.call rfl (fun wz hwz => field_AddK hf S1 (nK f of) wz) (fun wz hwz => ?_)) ?_
          · go_simp; try (with_reducible rfl)
          (simp only [Act.put]); (try simp only [List.setIfInBounds_toArray]); (try simp only [List.set_cons_succ]); (try simp only [List.set_cons_zero])
          refine WpH.takeD 12 (some 60) (v := ?_) rfl rfl (by kernel_rfl) (fun _ _ _ h => h) (.val rfl (fun wz hwz => ?_)) ?_
          rotate_left
          · (obtain ⟨hcz, hfz⟩ := bcell hwz; go_simp; try (with_reducible rfl))
          (simp only [Act.put]); (try simp only [List.setIfInBounds_toArray]); (try simp only [List.set_cons_succ]); (try simp only [List.set_cons_zero])
          refine WpH.takeD 13 (some 61) (v := ?_) rfl rfl (by kernel_rfl) (fun _ _ _ h => h) (.val rfl (fun wz hwz => ?_)) ?_
          rotate_left
          · go_simp; try (with_reducible rfl)
          (simp only [Act.put]); (try simp only [List.setIfInBounds_toArray]); (try simp only [List.set_cons_succ]); (try simp only [List.set_cons_zero])
          refine WpH.takeD 14 (some 62) (v := ?_) rfl rfl (by kernel_rfl) (fun _ _ _ h => h) (.val rfl (fun wz hwz => ?_)) ?_
          rotate_left
          · go_simp; try (with_reducible rfl)
          (simp only [Act.put]); (try simp only [List.setIfInBounds_toArray]); (try simp only [List.set_cons_succ]); (try simp only [List.set_cons_zero])
          refine WpH.takeD 15 (some 63) (v := ?_) rfl rfl (by kernel_rfl) (fun _ _ _ h => h) (.val rfl (fun wz hwz => ?_)) ?_
          rotate_left
          · (obtain ⟨hcz, hfz⟩ := bcell hwz; go_simp; try (with_reducible rfl))
          (simp only [Act.put]); (try simp only [List.setIfInBounds_toArray]); (try simp only [List.set_cons_succ]); (try simp only [List.set_cons_zero])
          refine WpH.takeD 16 (some 64) (v := ?_) rfl rfl (by kernel_rfl) (fun _ _ _ h => h) (.val rfl (fun wz hwz => ?_)) ?_
          rotate_left
          · go_simp; try (with_reducible rfl)
          (simp only [Act.put]); (try simp only [List.setIfInBounds_toArray]); (try simp only [List.set_cons_succ]); (try simp only [List.set_cons_zero])
          refine WpH.takeD 17 (some 65) rfl rfl (by kernel_rfl) (fun _ _ _ h => h) (.call rfl (fun wz hwz => HNM.out wz (hbw.trans (hwz.mono hbw.size))) (fun wz hwz => ?_)) ?_
          · go_simp; try (with_reducible rfl)
          (simp only [Act.put]); (try simp only [List.setIfInBounds_toArray]); (try simp only [List.set_cons_succ]); (try simp only [List.set_cons_zero])
          refine WpH.takeD 18 (some 66) (v := ?_) rfl rfl (by kernel_rfl) (fun _ _ _ h => h) (.val rfl (fun wz hwz => ?_)) ?_
          rotate_left
          · go_simp; try (with_reducible rfl)
          (simp only [Act.put]); (try simp only [List.setIfInBounds_toArray]); (try simp only [List.set_cons_succ]); (try simp only [List.set_cons_zero])
          refine WpH.doneB (by kernel_rfl) (fun w5 hw5 => ?_)
          (try simp only [List.drop_succ_cons]); (try simp only [List.drop_zero]); (try simp only [Nat.reduceSub]); (try simp only [List.take_succ_cons]); (try simp only [List.take_zero])
          clear x0 x1 x2 x3 x4 x5 x6 x7 x8 x9 x10 x11 x12
          replace hbw := bl_call hbw (Nat.le_refl _) hw5
          replace hx := hx.call hw5
          go_wp2_with fail
          exact bodyPost_ret (v := .bool false) (by simp [results, Try.results42, go_sem]) rfl ⟨⟨false, rfl, by simp; exact HG.out⟩, hbw⟩
end

end Go.Proofs.Ytiphahbeedeebaa

namespace Go.Proofs.Ytiphahbeedeebaa
open Go.RowKit Fm
set_option linter.unusedVariables false
set_option maxRecDepth 100000

theorem awake_list : (encMulti 2 [1, 0, 1]).map (nK 1) = ([1, 0, 1, 1, 1] : KL 1) := by decide +kernel
theorem awake_cells : esK ([1, 0, 1, 1, 1] : KL 1) = [(1, 0), (0, 0), (1, 0), (1, 0), (1, 0)] := by decide +kernel
theorem awake_ok : okMulti 2 [1, 0, 1] := ⟨fun x hx => by simp only [List.mem_cons, List.not_mem_nil, or_false] at hx; omega, by decide⟩
theorem awake_okc : (CK.multi 3 2 2).ok := ⟨⟨by omega, by omega⟩, ⟨by omega, by omega⟩, ⟨by omega, by omega⟩⟩
theorem awake_vec : okVec (.multi 3 2 2) ([1, 0, 1, 1, 1] : KL 1) := by
  refine ⟨?_, ?_⟩
  · intro x hx
    simp only [List.mem_cons, List.not_mem_nil, or_false] at hx
    rcases hx with h | h | h | h | h
    · exact .inr h
    · exact .inl h
    · exact .inr h
    · exact .inr h
    · exact .inr h
  · show ksum (([1, 0, 1, 1, 1] : KL 1).take 3) + nK 1 (offN 2) = knum (([1, 0, 1, 1, 1] : KL 1).drop 3)
    decide +kernel

set_option maxHeartbeats 4000000 in
theorem law10_Awake (w : World) : Calls Try.prog 35 #[] w fun e w' => e = .returned (.bool true) ∧ Below w.heap.size w w' := by
  have heq := eql_elem
  have hb00 : Below w.heap.size w w := Below.refl _ _
  have HENC := Lib.hid (circuit_Encode_multi isF1 3 2 2 awake_okc (by decide +kernel))
  have HVAL := Lib.hid (circuit_Valid isF1 (.multi 3 2 2) awake_okc (by decide +kernel))
  go_enter Try.func35, Try.ntmps35
  go_upto_region 2 with fail
  have hx := Vs.new w [.int .u8 5, .int .u8 1, .int .i64 0, .int .i64 3, .int .i64 2, .int .i64 2] #[.int .u8 5, .int .u8 1, .int .i64 0, .int .i64 3, .int .i64 2, .int .i64 2] 60 rfl
  have hbA : Below w.heap.size w (w.alloc (.cells #[.int .u8 5, .int .u8 1, .int .i64 0, .int .i64 3, .int .i64 2, .int .i64 2] 60)) := by repeat (first | exact Below.refl _ _ | with_reducible assumption | (refine bl_alloc ?_ (Nat.le_refl _) _))
  replace hb00 := bl_call hb00 (Nat.le_refl _) hbA
  clear hbA
  generalize w.alloc (.cells #[.int .u8 5, .int .u8 1, .int .i64 0, .int .i64 3, .int .i64 2, .int .i64 2] 60) = w1 at hb00 hx ⊢
  obtain ⟨⟨x0, x1, x2, x3, x4, x5⟩, ⟨x6, x7, x8, x9, x10, x11⟩, x12⟩ := hx.get6
  have hSU : SlU (w1.alloc (.cells #[.int .u64 1, .int .u64 0, .int .u64 1] 39)) (w1.alloc (.cells #[.int .u64 1, .int .u64 0, .int .u64 1] 39)).heap.size (.slice (some ⟨w1.heap.size, 0, none⟩) 3 3) (natsI [1, 0, 1]) := by
    have hV := Vs.new w1 [.int .u64 1, .int .u64 0, .int .u64 1] #[.int .u64 1, .int .u64 0, .int .u64 1] 39 rfl
    refine ⟨⟨some ⟨w1.heap.size, 0, none⟩, 3, rfl, Nat.le_refl _, by omega, fun _ => ⟨w1.heap.size, 0, rfl, hV.lt, fun i e hi => ?_⟩⟩, ?_⟩
    · rw [Nat.zero_add]
      refine hV.cell i _ ?_
      match i, hi with
      | 0, hi => obtain rfl : (1 : Int) = e := by simpa [natsI] using hi
                 rfl
      | 1, hi => obtain rfl : (0 : Int) = e := by simpa [natsI] using hi
                 rfl
      | 2, hi => obtain rfl : (1 : Int) = e := by simpa [natsI] using hi
                 rfl
      | i + 3, hi => simp [natsI] at hi
    · intro e he
      simp [natsI] at he
      rcases he with rfl | rfl | rfl <;> exact ⟨by omega, by omega⟩
  have HE := Lib.hid (HENC.out _ [1, 0, 1] _ hSU rfl)
  have hbA : Below w1.heap.size w1 (w1.alloc (.cells #[.int .u64 1, .int .u64 0, .int .u64 1] 39)) := by repeat (first | exact Below.refl _ _ | with_reducible assumption | (refine bl_alloc ?_ (Nat.le_refl _) _) | (refine bl_set ?_ (by dsimp only; omega) _) | (refine Below.drew ?_) | (refine bl_drewN ?_ _) | (refine bl_call ?_ (Nat.le_refl _) (by assumption)))
  clear hSU
  go_wp2_with fail
  refine HE.out.mono ?_
  rintro e w2 (⟨_, v, rfl, hown, hb2⟩ | ⟨hno, _⟩)
  rotate_left
  · exact absurd awake_ok hno
  rw [awake_list] at hown
  obtain ⟨g, cap, rfl⟩ := own_slice (n := 4) hown
  replace hb00 := bl_call hb00 (Nat.le_refl _) hbA
  replace hx := hx.call hbA
  replace hb00 := bl_call hb00 (Nat.le_refl _) hb2
  replace hx := hx.call hb2
  clear HE hbA hb2
  clear x0 x1 x2 x3 x4 x5 x6 x7 x8 x9 x10 x11 x12
  have hsl : SlK w2 w2.heap.size (.slice (some ⟨g, 0, none⟩) 5 cap) ([1, 0, 1, 1, 1] : KL 1) := own_sl rfl hown
  rw [awake_cells] at hown
  have c4 := hown.cellAt 4 (by omega)
  have c5 := hown.cellAt 5 (by omega)
  have c6 := hown.cellAt 6 (by omega)
  have c7 := hown.cellAt 7 (by omega)
  have c8 := hown.cellAt 8 (by omega)
  have c9 := hown.cellAt 9 (by omega)
  change _ = some (Value.int .u64 1) at c4
  change _ = some (Value.int .u64 0) at c5
  change _ = some (Value.int .u64 1) at c6
  change _ = some (Value.int .u64 0) at c7
  change _ = some (Value.int .u64 1) at c8
  change _ = some (Value.int .u64 0) at c9
  have HV := Lib.hid (HVAL.out _ _ w2 hsl rfl)
  clear hsl hown HVAL HENC
  obtain ⟨⟨x0, x1, x2, x3, x4, x5⟩, ⟨x6, x7, x8, x9, x10, x11⟩, x12⟩ := hx.get6
  go_wp2_with fail
  refine HV.out.mono ?_
  rintro e w3 ⟨⟨b, rfl, hb⟩, hb3⟩
  obtain rfl : b = true := hb.2 awake_vec
  replace hb00 := bl_call hb00 (Nat.le_refl _) hb3
  replace hx := hx.call hb3
  go_wp2_with fail
  go_ret
  exact ⟨rfl, hb00⟩

end Go.Proofs.Ytiphahbeedeebaa

namespace Go.Proofs.Ytiphahbeedeebaa
open Go Go.RowKit

section
variable {P : Program} {Q : Exit → Act → World → Prop}

theorem region_GS {id n m f : Nat} {l : List Oper} {a : Act} {w : World} (S : World → Prop) (hC : Clo S) (hS : S w.drew) (hm : P.follows .mixedOrders = true) (hB : partsB .any l.toArray n m (Array.replicate l.length false) = true) (hf : f + (m - n) = l.length)
    (h : WpG P .any l.toArray Q n m (wpList P l.toArray Q ((l.drop n).take (m - n))) f (Array.replicate l.length false) a S) : (Code.region id l.toArray true).wp P Q a w := by
  refine wp_region_any hm ?_
  have := any_G (w := w.drew) hB hC hS h
  rw [hf] at this
  simpa using this
end

end Go.Proofs.Ytiphahbeedeebaa
