/-
  WALK: circuit.Valid.
-/
/-
  WALKS: powers and inverses (wide.Pow ..).
-/
/-
  WALKS: tallymanlaw10.Awake; Small.Circuit.
-/
import Derived.Test.YtiphahbeedeebaaMan
import Derived.Test.YtiphahbeedeebaaMah
import Derived.Test.YtiphahbeedeebaaMag
import Derived.Laws.Bits64b
namespace Go.Proofs.Ytiphahbeedeebaa
open Go.RowKit Fm
set_option linter.unusedVariables false
set_option maxRecDepth 100000

theorem lohi_eq {f : Nat} (x y : Fin (Pm f)) : (lo x == lo y && hi x == hi y) = decide (x = y) := by
  by_cases h : x = y
  · subst h
    simp
  · rw [decide_eq_false h, Bool.and_eq_false_iff, beq_eq_false_iff_ne, beq_eq_false_iff_ne]
    by_cases h0 : lo x = lo y
    · exact .inr fun h1 => h (lohi_inj h0 h1)
    · exact .inl h0

/-- is a vector right? -/
def okBits {f : Nat} (l : KL f) : Prop := ∀ x, x ∈ l → x = 0 ∨ x = 1
def okRest {f : Nat} (y : CK) (l : KL f) : Prop :=
  match y with
  | .hist _ _ => ksum l = 1
  | .multi n m _ => ksum (l.take n) + nK f (offN m) = knum (l.drop n)
  | _ => True
def okVec {f : Nat} (y : CK) (l : KL f) : Prop := okBits l ∧ okRest y l

/-- a test's answer comes back -/
def RetTest (p : Prop) (w : World) (e : Ending) (w' : World) : Prop := (∃ b : Bool, e = .returned (.bool b) ∧ (b = true ↔ p)) ∧ Below w.heap.size w w'

theorem okBits_take {f : Nat} {l : KL f} {k : Nat} {x : Fin (Pm f)} (h : l[k]? = some x) (ha : okBits (l.take k)) (hx : x = 0 ∨ x = 1) : okBits (l.take (k + 1)) := by
  intro z hz
  rw [List.take_add_one, h] at hz
  rcases List.mem_append.1 hz with h1 | h1
  · exact ha z h1
  · have : z = x := by simpa using h1
    subst this
    exact hx

theorem SlK.takeN {f : Nat} {w : World} {B : Nat} {A : Option Addr} {c : Nat} {l : KL f} {n : Nat} (h : SlK w B (.slice A l.length c) l) (hn : n ≤ l.length) (v : Value) (hv : v = .slice A n c) : SlK w B v (l.take n) := by
  obtain ⟨A', c', hh, h1, h2, h3⟩ := h
  injection hh with e1 e2 e3
  subst e1
  subst e3
  have hl : (l.take n).length = n := by rw [List.length_take]; omega
  refine ⟨A, c, by rw [hl]; exact hv, by omega, h2, fun h0 => ?_⟩
  rw [hl] at h0
  obtain ⟨b, o, hA, hB, hr⟩ := h3 (by omega)
  refine ⟨b, o, hA, hB, fun i e hi => hr i e ?_⟩
  unfold esK at hi ⊢
  rw [List.map_take] at hi
  rw [← hi, List.getElem?_take]
  split
  · rfl
  · rename_i hge
    rw [List.getElem?_take, if_neg hge] at hi
    cases hi

theorem SlK.dropN {f : Nat} {w : World} {B b o : Nat} {c : Nat} {l : KL f} {n : Nat} (h : SlK w B (.slice (some ⟨b, o, none⟩) l.length c) l) (hn : n < l.length) : SlK w B (.slice (some ⟨b, o + n * 2, none⟩) (l.length - n) (c - n)) (l.drop n) := by
  obtain ⟨A', c', hh, h1, h2, h3⟩ := h
  injection hh with e1 e2 e3
  subst e1
  subst e3
  have hl : (l.drop n).length = l.length - n := List.length_drop
  refine ⟨some ⟨b, o + n * 2, none⟩, c - n, by rw [hl], by omega, by omega, fun h0 => ?_⟩
  obtain ⟨b', o', hA, hB, hr⟩ := h3 (by omega)
  injection hA with hA
  injection hA with hb ho
  subst hb
  subst ho
  refine ⟨b, o + n * 2, rfl, hB, fun i e hi => ?_⟩
  unfold esK at hi
  rw [List.map_drop, List.getElem?_drop] at hi
  have h4 := hr (n + i) e hi
  rw [show o + n * 2 + i * 2 = o + (n + i) * 2 by omega]
  exact h4

section
variable {f : Nat} (hf : IsF f)
include hf

set_option maxHeartbeats 8000000 in
theorem circuit_Valid (y : CK) (hy : y.ok) (hcalls : ¬ 511 < y.calls) (vl : Value) (l : KL f) (w : World) (hl : SlK w w.heap.size vl l) (hlen : l.length = y.nin) :
    Calls Try.prog 42 #[y.val f, vl] w (RetTest (okVec y l) w) := by
  have HC : Hid (∀ wz, Calls Try.prog 59 #[y.val f] wz (RetC 0 wz)) := by
    intro wz
    have h := circuit_Check_ok hf y hy wz
    rwa [CK.code_ok hcalls] at h
  have HI := Lib.hid (fun wz => circuit_In f y hy wz)
  have HONE := Lib.hid (fun wz => field_One hf wz)
  have hnin := CK.nin_le hy
  have heq := eql_elem
  have hneq := neq_elem
  have hfb0 : (1 : Int) ≤ (f : Int) := by rcases hf.or with rfl | rfl <;> omega
  have hfb1 : (f : Int) ≤ 2 := by rcases hf.or with rfl | rfl <;> omega
  have HSL := Lib.hid hl
  obtain ⟨A, cc, rfl, hcc, hcm, hA⟩ := hl
  have HL := Lib.hid hlen
  unfold CK.val at HC HI ⊢
  obtain ⟨K, hK⟩ : ∃ K : Int, ((y.k : Nat) : Int) = K := ⟨_, rfl⟩
  obtain ⟨B, hB⟩ : ∃ K : Int, ((y.b : Nat) : Int) = K := ⟨_, rfl⟩
  obtain ⟨N, hN⟩ : ∃ K : Int, ((y.l : Nat) : Int) = K := ⟨_, rfl⟩
  obtain ⟨M, hM⟩ : ∃ K : Int, ((y.m : Nat) : Int) = K := ⟨_, rfl⟩
  obtain ⟨C, hC⟩ : ∃ K : Int, ((y.c : Nat) : Int) = K := ⟨_, rfl⟩
  rw [hK, hB, hN, hM, hC] at HC HI ⊢
  have HK := Lib.hid hK
  have HB := Lib.hid hB
  have HN := Lib.hid hN
  have HM := Lib.hid hM
  have HCC := Lib.hid hC
  rw [← hlen] at HI
  have hll : l.length ≤ 2048 := by rw [hlen]; exact hnin
  clear hK hB hN hM hC hlen hnin hcalls
  have hb00 : Below w.heap.size w w := Below.refl _ _
  go_enter Try.func42, Try.ntmps42
  go_upto_region 1 with fail
  have hx := Vs.new w [.int .u8 K, .int .u8 f, .int .i64 B, .int .i64 N, .int .i64 M, .int .i64 C] #[.int .u8 K, .int .u8 f, .int .i64 B, .int .i64 N, .int .i64 M, .int .i64 C] 60 rfl
  have hbA : Below w.heap.size w (w.alloc (.cells #[.int .u8 K, .int .u8 f, .int .i64 B, .int .i64 N, .int .i64 M, .int .i64 C] 60)) := by repeat (first | exact Below.refl _ _ | with_reducible assumption | (refine bl_alloc ?_ (Nat.le_refl _) _))
  replace hb00 := bl_call hb00 (Nat.le_refl _) hbA
  clear hbA
  generalize w.alloc (.cells #[.int .u8 K, .int .u8 f, .int .i64 B, .int .i64 N, .int .i64 M, .int .i64 C] 60) = w1 at hb00 hx ⊢
  obtain ⟨⟨x0, x1, x2, x3, x4, x5⟩, ⟨x6, x7, x8, x9, x10, x11⟩, x12⟩ := hx.get6
  have hxl : w.heap.size < w1.heap.size := hx.lt
  go_upto_region 4 with (first
    | (go_at_call 59; refine (HC.out _).mono ?_; rintro e w2 ⟨rfl, hb2⟩; replace hb00 := bl_call hb00 (Nat.le_refl _) hb2; replace hx := hx.call hb2; obtain ⟨⟨x0, x1, x2, x3, x4, x5⟩, ⟨x6, x7, x8, x9, x10, x11⟩, x12⟩ := hx.get6)
    | (go_at_call 45; refine (HI.out _).mono ?_; rintro e w3 ⟨rfl, hb3⟩; replace hb00 := bl_call hb00 (Nat.le_refl _) hb3; replace hx := hx.call hb3; obtain ⟨⟨x0, x1, x2, x3, x4, x5⟩, ⟨x6, x7, x8, x9, x10, x11⟩, x12⟩ := hx.get6))
  have hsz : w.heap.size + 1 ≤ w3.heap.size := hx.lt
  clear HC HI hb2 hb3
  clear x0 x1 x2 x3 x4 x5 x6 x7 x8 x9 x10 x11 x12
  go_wp2_with fail
  go_loopw [22] (fun i wr => ∃ k : Nat, k ≤ l.length ∧ i = .int .i64 k ∧ Hid (okBits (l.take k)) ∧ Vs wr w.heap.size [.int .u8 K, .int .u8 f, .int .i64 B, .int .i64 N, .int .i64 M, .int .i64 C] ∧ Below w.heap.size w wr) (fun i _ => l.length - (intOf i).toNat)
  case atStart => exact ⟨0, Nat.zero_le _, rfl, fun x h => (by simp at h), hx, hb00⟩
  case round =>
    clear hx hb00 hsz hxl
    obtain ⟨k, hk, rfl, hbits, hx, hbw⟩ := hrel
    obtain ⟨⟨x0, x1, x2, x3, x4, x5⟩, ⟨x6, x7, x8, x9, x10, x11⟩, x12⟩ := hx.get6
    by_cases hlt : k < l.length
    · obtain ⟨b, o, rfl, hBb, hr⟩ := hA (by omega)
      obtain ⟨x, he⟩ : ∃ e, l[k]? = some e := ⟨_, List.getElem?_eq_getElem hlt⟩
      obtain ⟨d0, d1⟩ := (hr.below hbw hBb).kat he
      have hbl : b < wr.heap.size := Nat.lt_of_lt_of_le hBb hbw.size
      have HE := Lib.hid he
      have HNX := Lib.hid (fun h => okBits_take he hbits.out h)
      clear he hr hA
      go_upto_region 7 with fail
      clear x0 x1 x2 x3 x4 x5 x6 x7 x8 x9 x10 x11 x12
      have hv := V2.new wr (.int .u64 (lo x)) (.int .u64 (hi x)) 41
      have hbA : Below wr.heap.size wr (wr.alloc (.cells #[.int .u64 (lo x), .int .u64 (hi x)] 41)) := by repeat (first | exact Below.refl _ _ | with_reducible assumption | (refine bl_alloc ?_ (Nat.le_refl _) _))
      replace hbw := bl_call hbw (Nat.le_refl _) hbA
      replace hx := hx.call hbA
      clear hbA
      generalize wr.alloc (.cells #[.int .u64 (lo x), .int .u64 (hi x)] 41) = w4 at hbw hx hv ⊢
      obtain ⟨⟨x0, x1, x2, x3, x4, x5⟩, ⟨x6, x7, x8, x9, x10, x11⟩, x12⟩ := hx.get6
      obtain ⟨v0, v1, v2, v3, v4⟩ := V2.mk hv.c0 hv.c1 hv.f0 hv.f1 hv.lt
      have hl0 := lohi_zero x
      have hl1 := lohi_eq x 1
      by_cases h0 : x = 0
      · rw [decide_eq_true h0] at hl0
        have HX := Lib.hid (HNX.out (.inl h0))
        clear hl1 h0
        refine region_B (n := 8) (m := 9) (f := 8) (by kernel_rfl) (by kernel_rfl) rfl ?_
        refine WpH.takeD 0 (some 26) (v := ?_) rfl rfl (by kernel_rfl) (fun _ _ _ h => h) (.val rfl (fun wz hwz => ?_)) ?_
        rotate_left
        · (obtain ⟨hcz, hfz⟩ := bcell hwz; go_simp; try (with_reducible rfl))
        (simp only [Act.put]); (try simp only [List.setIfInBounds_toArray]); (try simp only [List.set_cons_succ]); (try simp only [List.set_cons_zero])
        refine WpH.takeD 1 (some 27) (v := ?_) rfl rfl (by kernel_rfl) (fun _ _ _ h => h) (.val rfl (fun wz hwz => ?_)) ?_
        rotate_left
        · go_simp; try (with_reducible rfl)
        (simp only [Act.put]); (try simp only [List.setIfInBounds_toArray]); (try simp only [List.set_cons_succ]); (try simp only [List.set_cons_zero])
        refine WpH.takeD 2 (some 28) (v := ?_) rfl rfl (by kernel_rfl) (fun _ _ _ h => h) (.val rfl (fun wz hwz => ?_)) ?_
        rotate_left
        · go_simp; try (with_reducible rfl)
        (simp only [Act.put]); (try simp only [List.setIfInBounds_toArray]); (try simp only [List.set_cons_succ]); (try simp only [List.set_cons_zero])
        refine WpH.takeD 3 (some 29) (v := ?_) rfl rfl (by kernel_rfl) (fun _ _ _ h => h) (.val rfl (fun wz hwz => ?_)) ?_
        rotate_left
        · go_simp; try (with_reducible rfl)
        (simp only [Act.put]); (try simp only [List.setIfInBounds_toArray]); (try simp only [List.set_cons_succ]); (try simp only [List.set_cons_zero])
        refine WpH.takeD 4 (some 30) rfl rfl (by kernel_rfl) (fun _ _ _ h => h) (.skip rfl) ?_
        (simp only [Act.put]); (try simp only [List.setIfInBounds_toArray]); (try simp only [List.set_cons_succ]); (try simp only [List.set_cons_zero])
        refine WpH.takeD 5 (some 31) rfl rfl (by kernel_rfl) (fun _ _ _ h => h) (.skip rfl) ?_
        (simp only [Act.put]); (try simp only [List.setIfInBounds_toArray]); (try simp only [List.set_cons_succ]); (try simp only [List.set_cons_zero])
        refine WpH.takeD 6 (some 32) rfl rfl (by kernel_rfl) (fun _ _ _ h => h) (.skip rfl) ?_
        (simp only [Act.put]); (try simp only [List.setIfInBounds_toArray]); (try simp only [List.set_cons_succ]); (try simp only [List.set_cons_zero])
        refine WpH.takeD 7 (some 33) rfl rfl (by kernel_rfl) (fun _ _ _ h => h) (.skip rfl) ?_
        (simp only [Act.put]); (try simp only [List.setIfInBounds_toArray]); (try simp only [List.set_cons_succ]); (try simp only [List.set_cons_zero])
        refine WpH.doneB (by kernel_rfl) (fun w6 hw6 => ?_)
        (try simp only [List.drop_succ_cons]); (try simp only [List.drop_zero]); (try simp only [Nat.reduceSub]); (try simp only [List.take_succ_cons]); (try simp only [List.take_zero])
        clear x0 x1 x2 x3 x4 x5 x6 x7 x8 x9 x10 x11 x12 v0 v1 v2 v3 v4
        replace hbw := bl_call hbw (Nat.le_refl _) hw6
        replace hx := hx.call hw6
        replace hv := hv.call hw6
        obtain ⟨⟨x0, x1, x2, x3, x4, x5⟩, ⟨x6, x7, x8, x9, x10, x11⟩, x12⟩ := hx.get6
        obtain ⟨v0, v1, v2, v3, v4⟩ := V2.mk hv.c0 hv.c1 hv.f0 hv.f1 hv.lt
        go_wp2_with fail
        go_roundw
        case rel => exact ⟨k + 1, by omega, by go_num, HX.out, hx, hbw⟩
        case measure => simp [intOf]; omega
      · rw [decide_eq_false h0] at hl0
        by_cases h1 : x = 1
        · rw [decide_eq_true h1] at hl1
          have HX := Lib.hid (HNX.out (.inr h1))
          clear h0 h1
          refine region_B (n := 8) (m := 9) (f := 8) (by kernel_rfl) (by kernel_rfl) rfl ?_
          refine WpH.takeD 0 (some 26) (v := ?_) rfl rfl (by kernel_rfl) (fun _ _ _ h => h) (.val rfl (fun wz hwz => ?_)) ?_
          rotate_left
          · (obtain ⟨hcz, hfz⟩ := bcell hwz; go_simp; try (with_reducible rfl))
          (simp only [Act.put]); (try simp only [List.setIfInBounds_toArray]); (try simp only [List.set_cons_succ]); (try simp only [List.set_cons_zero])
          refine WpH.takeD 1 (some 27) (v := ?_) rfl rfl (by kernel_rfl) (fun _ _ _ h => h) (.val rfl (fun wz hwz => ?_)) ?_
          rotate_left
          · go_simp; try (with_reducible rfl)
          (simp only [Act.put]); (try simp only [List.setIfInBounds_toArray]); (try simp only [List.set_cons_succ]); (try simp only [List.set_cons_zero])
          refine WpH.takeD 2 (some 28) (v := ?_) rfl rfl (by kernel_rfl) (fun _ _ _ h => h) (.val rfl (fun wz hwz => ?_)) ?_
          rotate_left
          · go_simp; try (with_reducible rfl)
          (simp only [Act.put]); (try simp only [List.setIfInBounds_toArray]); (try simp only [List.set_cons_succ]); (try simp only [List.set_cons_zero])
          refine WpH.takeD 3 (some 29) (v := ?_) rfl rfl (by kernel_rfl) (fun _ _ _ h => h) (.val rfl (fun wz hwz => ?_)) ?_
          rotate_left
          · go_simp; try (with_reducible rfl)
          (simp only [Act.put]); (try simp only [List.setIfInBounds_toArray]); (try simp only [List.set_cons_succ]); (try simp only [List.set_cons_zero])
          refine WpH.takeD 4 (some 30) (v := ?_) rfl rfl (by kernel_rfl) (fun _ _ _ h => h) (.val rfl (fun wz hwz => ?_)) ?_
          rotate_left
          · (obtain ⟨hcz, hfz⟩ := bcell hwz; go_simp; try (with_reducible rfl))
          (simp only [Act.put]); (try simp only [List.setIfInBounds_toArray]); (try simp only [List.set_cons_succ]); (try simp only [List.set_cons_zero])
          refine WpH.takeD 5 (some 31) (v := ?_) rfl rfl (by kernel_rfl) (fun _ _ _ h => h) (.val rfl (fun wz hwz => ?_)) ?_
          rotate_left
          · go_simp; try (with_reducible rfl)
          (simp only [Act.put]); (try simp only [List.setIfInBounds_toArray]); (try simp only [List.set_cons_succ]); (try simp only [List.set_cons_zero])
          refine WpH.takeD 6 (some 32) rfl rfl (by kernel_rfl) (fun _ _ _ h => h) (.call rfl (fun wz hwz => HONE.out wz) (fun wz hwz => ?_)) ?_
          · go_simp; try (with_reducible rfl)
          (simp only [Act.put]); (try simp only [List.setIfInBounds_toArray]); (try simp only [List.set_cons_succ]); (try simp only [List.set_cons_zero])
          refine WpH.takeD 7 (some 33) (v := ?_) rfl rfl (by kernel_rfl) (fun _ _ _ h => h) (.val rfl (fun wz hwz => ?_)) ?_
          rotate_left
          · go_simp; try (with_reducible rfl)
          (simp only [Act.put]); (try simp only [List.setIfInBounds_toArray]); (try simp only [List.set_cons_succ]); (try simp only [List.set_cons_zero])
          refine WpH.doneB (by kernel_rfl) (fun w6 hw6 => ?_)
          (try simp only [List.drop_succ_cons]); (try simp only [List.drop_zero]); (try simp only [Nat.reduceSub]); (try simp only [List.take_succ_cons]); (try simp only [List.take_zero])
          clear x0 x1 x2 x3 x4 x5 x6 x7 x8 x9 x10 x11 x12 v0 v1 v2 v3 v4
          replace hbw := bl_call hbw (Nat.le_refl _) hw6
          replace hx := hx.call hw6
          replace hv := hv.call hw6
          obtain ⟨⟨x0, x1, x2, x3, x4, x5⟩, ⟨x6, x7, x8, x9, x10, x11⟩, x12⟩ := hx.get6
          obtain ⟨v0, v1, v2, v3, v4⟩ := V2.mk hv.c0 hv.c1 hv.f0 hv.f1 hv.lt
          go_wp2_with fail
          go_roundw
          case rel => exact ⟨k + 1, by omega, by go_num, HX.out, hx, hbw⟩
          case measure => simp [intOf]; omega
        · rw [decide_eq_false h1] at hl1
          have hbad : ¬ okVec y l := fun h => (h.1 x (List.mem_of_getElem? HE.out)).elim h0 h1
          have HBAD := Lib.hid hbad
          clear h0 h1 hbad
          refine region_B (n := 8) (m := 9) (f := 8) (by kernel_rfl) (by kernel_rfl) rfl ?_
          refine WpH.takeD 0 (some 26) (v := ?_) rfl rfl (by kernel_rfl) (fun _ _ _ h => h) (.val rfl (fun wz hwz => ?_)) ?_
          rotate_left
          · (obtain ⟨hcz, hfz⟩ := bcell hwz; go_simp; try (with_reducible rfl))
          (simp only [Act.put]); (try simp only [List.setIfInBounds_toArray]); (try simp only [List.set_cons_succ]); (try simp only [List.set_cons_zero])
          refine WpH.takeD 1 (some 27) (v := ?_) rfl rfl (by kernel_rfl) (fun _ _ _ h => h) (.val rfl (fun wz hwz => ?_)) ?_
          rotate_left
          · go_simp; try (with_reducible rfl)
          (simp only [Act.put]); (try simp only [List.setIfInBounds_toArray]); (try simp only [List.set_cons_succ]); (try simp only [List.set_cons_zero])
          refine WpH.takeD 2 (some 28) (v := ?_) rfl rfl (by kernel_rfl) (fun _ _ _ h => h) (.val rfl (fun wz hwz => ?_)) ?_
          rotate_left
          · go_simp; try (with_reducible rfl)
          (simp only [Act.put]); (try simp only [List.setIfInBounds_toArray]); (try simp only [List.set_cons_succ]); (try simp only [List.set_cons_zero])
          refine WpH.takeD 3 (some 29) (v := ?_) rfl rfl (by kernel_rfl) (fun _ _ _ h => h) (.val rfl (fun wz hwz => ?_)) ?_
          rotate_left
          · go_simp; try (with_reducible rfl)
          (simp only [Act.put]); (try simp only [List.setIfInBounds_toArray]); (try simp only [List.set_cons_succ]); (try simp only [List.set_cons_zero])
          refine WpH.takeD 4 (some 30) (v := ?_) rfl rfl (by kernel_rfl) (fun _ _ _ h => h) (.val rfl (fun wz hwz => ?_)) ?_
          rotate_left
          · (obtain ⟨hcz, hfz⟩ := bcell hwz; go_simp; try (with_reducible rfl))
          (simp only [Act.put]); (try simp only [List.setIfInBounds_toArray]); (try simp only [List.set_cons_succ]); (try simp only [List.set_cons_zero])
          refine WpH.takeD 5 (some 31) (v := ?_) rfl rfl (by kernel_rfl) (fun _ _ _ h => h) (.val rfl (fun wz hwz => ?_)) ?_
          rotate_left
          · go_simp; try (with_reducible rfl)
          (simp only [Act.put]); (try simp only [List.setIfInBounds_toArray]); (try simp only [List.set_cons_succ]); (try simp only [List.set_cons_zero])
          refine WpH.takeD 6 (some 32) rfl rfl (by kernel_rfl) (fun _ _ _ h => h) (.call rfl (fun wz hwz => HONE.out wz) (fun wz hwz => ?_)) ?_
          · go_simp; try (with_reducible rfl)
          (simp only [Act.put]); (try simp only [List.setIfInBounds_toArray]); (try simp only [List.set_cons_succ]); (try simp only [List.set_cons_zero])
          refine WpH.takeD 7 (some 33) (v := ?_) rfl rfl (by kernel_rfl) (fun _ _ _ h => h) (.val rfl (fun wz hwz => ?_)) ?_
          rotate_left
          · go_simp; try (with_reducible rfl)
          (simp only [Act.put]); (try simp only [List.setIfInBounds_toArray]); (try simp only [List.set_cons_succ]); (try simp only [List.set_cons_zero])
          refine WpH.doneB (by kernel_rfl) (fun w6 hw6 => ?_)
          (try simp only [List.drop_succ_cons]); (try simp only [List.drop_zero]); (try simp only [Nat.reduceSub]); (try simp only [List.take_succ_cons]); (try simp only [List.take_zero])
          clear x0 x1 x2 x3 x4 x5 x6 x7 x8 x9 x10 x11 x12 v0 v1 v2 v3 v4
          replace hbw := bl_call hbw (Nat.le_refl _) hw6
          replace hx := hx.call hw6
          replace hv := hv.call hw6
          go_wp2_with fail
          go_ret
          exact ⟨⟨false, rfl, by simp; exact HBAD.out⟩, hbw⟩
    · obtain rfl : k = l.length := by omega
      rw [List.take_length] at hbits
      clear hlt hA
      cases y with
      | count =>
        obtain rfl : K = 1 := HK.out.symm
        go_wp2_with fail
        go_ret
        exact ⟨⟨true, rfl, by simp; exact ⟨hbits.out, trivial⟩⟩, hbw⟩
      | sum _ =>
        obtain rfl : K = 2 := HK.out.symm
        go_wp2_with fail
        go_ret
        exact ⟨⟨true, rfl, by simp; exact ⟨hbits.out, trivial⟩⟩, hbw⟩
      | vec _ _ _ =>
        obtain rfl : K = 3 := HK.out.symm
        go_wp2_with fail
        go_ret
        exact ⟨⟨true, rfl, by simp; exact ⟨hbits.out, trivial⟩⟩, hbw⟩
      | hist n c =>
        obtain rfl : K = 4 := HK.out.symm
        have HSUM := Lib.hid (fun wz (hb : Below w.heap.size w wz) => field_SumK hf _ l wz (HSL.out.later hb) (by omega))
        have hl1 := lohi_eq (ksum l) 1
        by_cases h1 : ksum l = 1
        · rw [decide_eq_true h1] at hl1
          have H1 := Lib.hid h1
          clear h1
          go_wp2_with (first
            | (go_at_call 102; refine (HSUM.out _ hbw).mono ?_; rintro e w5 ⟨rfl, hb5⟩; replace hbw := bl_call hbw (Nat.le_refl _) hb5; replace hx := hx.call hb5; obtain ⟨⟨x0, x1, x2, x3, x4, x5⟩, ⟨x6, x7, x8, x9, x10, x11⟩, x12⟩ := hx.get6)
            | (go_at_call 53; refine (HONE.out _).mono ?_; rintro e w6 ⟨rfl, hb6⟩; replace hbw := bl_call hbw (Nat.le_refl _) hb6; replace hx := hx.call hb6; obtain ⟨⟨x0, x1, x2, x3, x4, x5⟩, ⟨x6, x7, x8, x9, x10, x11⟩, x12⟩ := hx.get6))
          exact bodyPost_ret (v := .bool true) (by simp [results, Try.results42, go_sem]) rfl ⟨⟨true, rfl, by simp; exact ⟨hbits.out, H1.out⟩⟩, hbw⟩
        · rw [decide_eq_false h1] at hl1
          have H1 := Lib.hid h1
          clear h1
          go_wp2_with (first
            | (go_at_call 102; refine (HSUM.out _ hbw).mono ?_; rintro e w5 ⟨rfl, hb5⟩; replace hbw := bl_call hbw (Nat.le_refl _) hb5; replace hx := hx.call hb5; obtain ⟨⟨x0, x1, x2, x3, x4, x5⟩, ⟨x6, x7, x8, x9, x10, x11⟩, x12⟩ := hx.get6)
            | (go_at_call 53; refine (HONE.out _).mono ?_; rintro e w6 ⟨rfl, hb6⟩; replace hbw := bl_call hbw (Nat.le_refl _) hb6; replace hx := hx.call hb6; obtain ⟨⟨x0, x1, x2, x3, x4, x5⟩, ⟨x6, x7, x8, x9, x10, x11⟩, x12⟩ := hx.get6))
          exact bodyPost_ret (v := .bool false) (by simp [results, Try.results42, go_sem]) rfl ⟨⟨false, rfl, by simp; exact fun h => H1.out h.2⟩, hbw⟩
      | multi n m c =>
        obtain rfl : K = 5 := HK.out.symm
        obtain rfl : N = (n : Int) := HN.out.symm
        obtain rfl : M = (m : Int) := HM.out.symm
        have hm64 : m ≤ 64 := Nat.le_trans hy.2.1.2 hy.1.2
        have hln : n ≤ l.length := by rw [HL.out]; exact Nat.le_add_right _ _
        have hn64 : n ≤ 64 := hy.1.2
        have hn0 : (0 : Int) ≤ (n : Int) := by omega
        have hnl : (n : Int) ≤ (l.length : Int) := by omega
        have hnc : n ≤ cc := by omega
        have hlc : l.length ≤ cc := hcc
        have HOFF := Lib.hid (fun wz => circuit_offset 5 f B n C m hm64 wz)
        have HOFV := Lib.hid (fun wz => field_Of hf (offN m : Int) wz (by omega) (by have h1 := (bitLen_small m hm64).1; have h2 : 2 ^ Lib.bitLen m ≤ 2 ^ 7 := Nat.pow_le_pow_right (by omega) h1; have h3 : (2 : Nat) ^ 7 = 128 := rfl; show ((2 ^ Lib.bitLen m - 1 - m : Nat) : Int) ≤ _; omega))
        rw [show kL f (offN m : Int) 0 = nK f (offN m) from rfl] at HOFV
        have HS1 := Lib.hid (fun wz (hb : Below w.heap.size w wz) => field_SumK hf _ (l.take n) wz (SlK.takeN (HSL.out.later hb) hln (.slice A n cc) rfl) (by rw [List.length_take]; omega))
        obtain ⟨of, hof⟩ : ∃ of, offN m = of := ⟨_, rfl⟩
        rw [hof] at HOFF HOFV
        have HOF2 := Lib.hid hof.symm
        clear hof
        have hbq : 1 ≤ Lib.bitLen m := (bitLen_small m hm64).2.2 hy.2.1.1
        have hlt2 : n < l.length := by rw [HL.out]; show n < n + Lib.bitLen m; omega
        obtain ⟨A', c', hh, _, _, h3⟩ := HSL.out
        injection hh with e1 _ e3
        subst e1 e3
        obtain ⟨b, o, rfl, hBb, hr⟩ := h3 (by omega)
        have hne : ¬ (cc = n) := by omega
        clear h3 hr hbq
        have HNM := Lib.hid (fun wz (hb : Below w.heap.size w wz) => circuit_number hf 5 B (m : Int) C (n : Int) _ (l.drop n) wz (SlK.dropN (HSL.out.later hb) hlt2) (by rw [List.length_drop]; omega))
        have hl1 := lohi_eq (ksum (l.take n) + nK f of) (knum (l.drop n))
        have HOK : Hid (okRest (.multi n m c) l ↔ ksum (l.take n) + nK f of = knum (l.drop n)) := by rw [HOF2.out]; exact Iff.rfl
        generalize ksum (l.take n) = S1 at *
        generalize knum (l.drop n) = S2 at *
        by_cases h1 : S1 + nK f of = S2
        · rw [decide_eq_true h1] at hl1
          have hgood : okVec (.multi n m c) l := ⟨hbits.out, HOK.out.2 h1⟩
          have HG := Lib.hid hgood
          clear h1 hgood hy
          go_upto_region 14 with fail
          refine region_B (n := 19) (m := 20) (f := 19) (by kernel_rfl) (by kernel_rfl) rfl ?_
          refine WpH.takeD 0 (some 48) (v := ?_) rfl rfl (by kernel_rfl) (fun _ _ _ h => h) (.val rfl (fun wz hwz => ?_)) ?_
          rotate_left
          · go_simp; try (with_reducible rfl)
          (simp only [Act.put]); (try simp only [List.setIfInBounds_toArray]); (try simp only [List.set_cons_succ]); (try simp only [List.set_cons_zero])
          refine WpH.takeD 1 (some 49) (v := ?_) rfl rfl (by kernel_rfl) (fun _ _ _ h => h) (.val rfl (fun wz hwz => ?_)) ?_
          rotate_left
          · go_simp; try (with_reducible rfl)
          (simp only [Act.put]); (try simp only [List.setIfInBounds_toArray]); (try simp only [List.set_cons_succ]); (try simp only [List.set_cons_zero])
          refine WpH.takeD 2 (some 50) (v := ?_) rfl rfl (by kernel_rfl) (fun _ _ _ h => h) (.val rfl (fun wz hwz => ?_)) ?_
          rotate_left
          · go_simp; try (with_reducible rfl)
          (simp only [Act.put]); (try simp only [List.setIfInBounds_toArray]); (try simp only [List.set_cons_succ]); (try simp only [List.set_cons_zero])
          refine WpH.takeD 3 (some 51) (v := ?_) rfl rfl (by kernel_rfl) (fun _ _ _ h => h) (.val rfl (fun wz hwz => ?_)) ?_
          rotate_left
          · go_simp; try (with_reducible rfl)
          (simp only [Act.put]); (try simp only [List.setIfInBounds_toArray]); (try simp only [List.set_cons_succ]); (try simp only [List.set_cons_zero])
          refine WpH.takeD 4 (some 52) (v := ?_) rfl rfl (by kernel_rfl) (fun _ _ _ h => h) (.val rfl (fun wz hwz => ?_)) ?_
          rotate_left
          · (obtain ⟨hcz, hfz⟩ := bcell hwz; go_simp; try (with_reducible rfl))
          (simp only [Act.put]); (try simp only [List.setIfInBounds_toArray]); (try simp only [List.set_cons_succ]); (try simp only [List.set_cons_zero])
          refine WpH.takeD 5 (some 53) (v := ?_) rfl rfl (by kernel_rfl) (fun _ _ _ h => h) (.val rfl (fun wz hwz => ?_)) ?_
          rotate_left
          · go_simp; try (with_reducible rfl)
          (simp only [Act.put]); (try simp only [List.setIfInBounds_toArray]); (try simp only [List.set_cons_succ]); (try simp only [List.set_cons_zero])
          refine WpH.takeD 6 (some 54) rfl rfl (by kernel_rfl) (fun _ _ _ h => h) (.call rfl (fun wz hwz => HS1.out wz (hbw.trans (hwz.mono hbw.size))) (fun wz hwz => ?_)) ?_
          · go_simp; try (with_reducible rfl)
          (simp only [Act.put]); (try simp only [List.setIfInBounds_toArray]); (try simp only [List.set_cons_succ]); (try simp only [List.set_cons_zero])
          refine WpH.takeD 7 (some 55) (v := ?_) rfl rfl (by kernel_rfl) (fun _ _ _ h => h) (.val rfl (fun wz hwz => ?_)) ?_
          rotate_left
          · go_simp; try (with_reducible rfl)
          (simp only [Act.put]); (try simp only [List.setIfInBounds_toArray]); (try simp only [List.set_cons_succ]); (try simp only [List.set_cons_zero])
          refine WpH.takeD 8 (some 56) (v := ?_) rfl rfl (by kernel_rfl) (fun _ _ _ h => h) (.val rfl (fun wz hwz => ?_)) ?_
          rotate_left
          · (obtain ⟨hcz, hfz⟩ := bcell hwz; go_simp; try (with_reducible rfl))
          (simp only [Act.put]); (try simp only [List.setIfInBounds_toArray]); (try simp only [List.set_cons_succ]); (try simp only [List.set_cons_zero])
          refine WpH.takeD 9 (some 57) rfl rfl (by kernel_rfl) (fun _ _ _ h => h) (.call rfl (fun wz hwz => HOFF.out wz) (fun wz hwz => ?_)) ?_
          · go_simp; try (with_reducible rfl)
          (simp only [Act.put]); (try simp only [List.setIfInBounds_toArray]); (try simp only [List.set_cons_succ]); (try simp only [List.set_cons_zero])
          refine WpH.takeD 10 (some 58) rfl rfl (by kernel_rfl) (fun _ _ _ h => h) (.call rfl (fun wz hwz => HOFV.out wz) (fun wz hwz => ?_)) ?_
          · go_simp; try (with_reducible rfl)
          (simp only [Act.put]); (try simp only [List.setIfInBounds_toArray]); (try simp only [List.set_cons_succ]); (try simp only [List.set_cons_zero])
          refine WpH.takeD 11 (some 59) rfl rfl (by kernel_rfl) (fun _ _ _ h => h) (.call rfl (fun wz hwz => field_AddK hf S1 (nK f of) wz) (fun wz hwz => ?_)) ?_
          · go_simp; try (with_reducible rfl)
          (simp only [Act.put]); (try simp only [List.setIfInBounds_toArray]); (try simp only [List.set_cons_succ]); (try simp only [List.set_cons_zero])
          refine WpH.takeD 12 (some 60) (v := ?_) rfl rfl (by kernel_rfl) (fun _ _ _ h => h) (.val rfl (fun wz hwz => ?_)) ?_
          rotate_left
          · (obtain ⟨hcz, hfz⟩ := bcell hwz; go_simp; try (with_reducible rfl))
          (simp only [Act.put]); (try simp only [List.setIfInBounds_toArray]); (try simp only [List.set_cons_succ]); (try simp only [List.set_cons_zero])
          refine WpH.takeD 13 (some 61) (v := ?_) rfl rfl (by kernel_rfl) (fun _ _ _ h => h) (.val rfl (fun wz hwz => ?_)) ?_
          rotate_left
          · go_simp; try (with_reducible rfl)
          (simp only [Act.put]); (try simp only [List.setIfInBounds_toArray]); (try simp only [List.set_cons_succ]); (try simp only [List.set_cons_zero])
          refine WpH.takeD 14 (some 62) (v := ?_) rfl rfl (by kernel_rfl) (fun _ _ _ h => h) (.val rfl (fun wz hwz => ?_)) ?_
          rotate_left
          · go_simp; try (with_reducible rfl)
          (simp only [Act.put]); (try simp only [List.setIfInBounds_toArray]); (try simp only [List.set_cons_succ]); (try simp only [List.set_cons_zero])
          refine WpH.takeD 15 (some 63) (v := ?_) rfl rfl (by kernel_rfl) (fun _ _ _ h => h) (.val rfl (fun wz hwz => ?_)) ?_
          rotate_left
          · (obtain ⟨hcz, hfz⟩ := bcell hwz; go_simp; try (with_reducible rfl))
          (simp only [Act.put]); (try simp only [List.setIfInBounds_toArray]); (try simp only [List.set_cons_succ]); (try simp only [List.set_cons_zero])
          refine WpH.takeD 16 (some 64) (v := ?_) rfl rfl (by kernel_rfl) (fun _ _ _ h => h) (.val rfl (fun wz hwz => ?_)) ?_
          rotate_left
          · go_simp; try (with_reducible rfl)
          (simp only [Act.put]); (try simp only [List.setIfInBounds_toArray]); (try simp only [List.set_cons_succ]); (try simp only [List.set_cons_zero])
          refine WpH.takeD 17 (some 65) rfl rfl (by kernel_rfl) (fun _ _ _ h => h) (.call rfl (fun wz hwz => HNM.out wz (hbw.trans (hwz.mono hbw.size))) (fun wz hwz => ?_)) ?_
          · go_simp; try (with_reducible rfl)
          (simp only [Act.put]); (try simp only [List.setIfInBounds_toArray]); (try simp only [List.set_cons_succ]); (try simp only [List.set_cons_zero])
          refine WpH.takeD 18 (some 66) (v := ?_) rfl rfl (by kernel_rfl) (fun _ _ _ h => h) (.val rfl (fun wz hwz => ?_)) ?_
          rotate_left
          · go_simp; try (with_reducible rfl)
          (simp only [Act.put]); (try simp only [List.setIfInBounds_toArray]); (try simp only [List.set_cons_succ]); (try simp only [List.set_cons_zero])
          refine WpH.doneB (by kernel_rfl) (fun w5 hw5 => ?_)
          (try simp only [List.drop_succ_cons]); (try simp only [List.drop_zero]); (try simp only [Nat.reduceSub]); (try simp only [List.take_succ_cons]); (try simp only [List.take_zero])
          clear x0 x1 x2 x3 x4 x5 x6 x7 x8 x9 x10 x11 x12
          replace hbw := bl_call hbw (Nat.le_refl _) hw5
          replace hx := hx.call hw5
          go_wp2_with fail
          exact bodyPost_ret (v := .bool true) (by simp [results, Try.results42, go_sem]) rfl ⟨⟨true, rfl, by simp; exact HG.out⟩, hbw⟩
        · rw [decide_eq_false h1] at hl1
          have hbad : ¬ okVec (.multi n m c) l := fun h => h1 (HOK.out.1 h.2)
          have HG := Lib.hid hbad
          clear h1 hbad hy
          go_upto_region 14 with fail
          refine region_B (n := 19) (m := 20) (f := 19) (by kernel_rfl) (by kernel_rfl) rfl ?_
          refine WpH.takeD 0 (some 48) (v := ?_) rfl rfl (by kernel_rfl) (fun _ _ _ h => h) (.val rfl (fun wz hwz => ?_)) ?_
          rotate_left
          · go_simp; try (with_reducible rfl)
          (simp only [Act.put]); (try simp only [List.setIfInBounds_toArray]); (try simp only [List.set_cons_succ]); (try simp only [List.set_cons_zero])
          refine WpH.takeD 1 (some 49) (v := ?_) rfl rfl (by kernel_rfl) (fun _ _ _ h => h) (.val rfl (fun wz hwz => ?_)) ?_
          rotate_left
          · go_simp; try (with_reducible rfl)
          (simp only [Act.put]); (try simp only [List.setIfInBounds_toArray]); (try simp only [List.set_cons_succ]); (try simp only [List.set_cons_zero])
          refine WpH.takeD 2 (some 50) (v := ?_) rfl rfl (by kernel_rfl) (fun _ _ _ h => h) (.val rfl (fun wz hwz => ?_)) ?_
          rotate_left
          · go_simp; try (with_reducible rfl)
          (simp only [Act.put]); (try simp only [List.setIfInBounds_toArray]); (try simp only [List.set_cons_succ]); (try simp only [List.set_cons_zero])
          refine WpH.takeD 3 (some 51) (v := ?_) rfl rfl (by kernel_rfl) (fun _ _ _ h => h) (.val rfl (fun wz hwz => ?_)) ?_
          rotate_left
          · go_simp; try (with_reducible rfl)
          (simp only [Act.put]); (try simp only [List.setIfInBounds_toArray]); (try simp only [List.set_cons_succ]); (try simp only [List.set_cons_zero])
          refine WpH.takeD 4 (some 52) (v := ?_) rfl rfl (by kernel_rfl) (fun _ _ _ h => h) (.val rfl (fun wz hwz => ?_)) ?_
          rotate_left
          · (obtain ⟨hcz, hfz⟩ := bcell hwz; go_simp; try (with_reducible rfl))
          (simp only [Act.put]); (try simp only [List.setIfInBounds_toArray]); (try simp only [List.set_cons_succ]); (try simp only [List.set_cons_zero])
          refine WpH.takeD 5 (some 53) (v := ?_) rfl rfl (by kernel_rfl) (fun _ _ _ h => h) (.val rfl (fun wz hwz => ?_)) ?_
          rotate_left
          · go_simp; try (with_reducible rfl)
          (simp only [Act.put]); (try simp only [List.setIfInBounds_toArray]); (try simp only [List.set_cons_succ]); (try simp only [List.set_cons_zero])
          refine WpH.takeD 6 (some 54) rfl rfl (by kernel_rfl) (fun _ _ _ h => h) (.call rfl (fun wz hwz => HS1.out wz (hbw.trans (hwz.mono hbw.size))) (fun wz hwz => ?_)) ?_
          · go_simp; try (with_reducible rfl)
          (simp only [Act.put]); (try simp only [List.setIfInBounds_toArray]); (try simp only [List.set_cons_succ]); (try simp only [List.set_cons_zero])
          refine WpH.takeD 7 (some 55) (v := ?_) rfl rfl (by kernel_rfl) (fun _ _ _ h => h) (.val rfl (fun wz hwz => ?_)) ?_
          rotate_left
          · go_simp; try (with_reducible rfl)
          (simp only [Act.put]); (try simp only [List.setIfInBounds_toArray]); (try simp only [List.set_cons_succ]); (try simp only [List.set_cons_zero])
          refine WpH.takeD 8 (some 56) (v := ?_) rfl rfl (by kernel_rfl) (fun _ _ _ h => h) (.val rfl (fun wz hwz => ?_)) ?_
          rotate_left
          · (obtain ⟨hcz, hfz⟩ := bcell hwz; go_simp; try (with_reducible rfl))
          (simp only [Act.put]); (try simp only [List.setIfInBounds_toArray]); (try simp only [List.set_cons_succ]); (try simp only [List.set_cons_zero])
          refine WpH.takeD 9 (some 57) rfl rfl (by kernel_rfl) (fun _ _ _ h => h) (.call rfl (fun wz hwz => HOFF.out wz) (fun wz hwz => ?_)) ?_
          · go_simp; try (with_reducible rfl)
          (simp only [Act.put]); (try simp only [List.setIfInBounds_toArray]); (try simp only [List.set_cons_succ]); (try simp only [List.set_cons_zero])
          refine WpH.takeD 10 (some 58) rfl rfl (by kernel_rfl) (fun _ _ _ h => h) (.call rfl (fun wz hwz => HOFV.out wz) (fun wz hwz => ?_)) ?_
          · go_simp; try (with_reducible rfl)
          (simp only [Act.put]); (try simp only [List.setIfInBounds_toArray]); (try simp only [List.set_cons_succ]); (try simp only [List.set_cons_zero])
          refine WpH.takeD 11 (some 59) rfl rfl (by kernel_rfl) (fun _ _ _ h => h) (.call rfl (fun wz hwz => field_AddK hf S1 (nK f of) wz) (fun wz hwz => ?_)) ?_
          · go_simp; try (with_reducible rfl)
          (simp only [Act.put]); (try simp only [List.setIfInBounds_toArray]); (try simp only [List.set_cons_succ]); (try simp only [List.set_cons_zero])
          refine WpH.takeD 12 (some 60) (v := ?_) rfl rfl (by kernel_rfl) (fun _ _ _ h => h) (.val rfl (fun wz hwz => ?_)) ?_
          rotate_left
          · (obtain ⟨hcz, hfz⟩ := bcell hwz; go_simp; try (with_reducible rfl))
          (simp only [Act.put]); (try simp only [List.setIfInBounds_toArray]); (try simp only [List.set_cons_succ]); (try simp only [List.set_cons_zero])
          refine WpH.takeD 13 (some 61) (v := ?_) rfl rfl (by kernel_rfl) (fun _ _ _ h => h) (.val rfl (fun wz hwz => ?_)) ?_
          rotate_left
          · go_simp; try (with_reducible rfl)
          (simp only [Act.put]); (try simp only [List.setIfInBounds_toArray]); (try simp only [List.set_cons_succ]); (try simp only [List.set_cons_zero])
          refine WpH.takeD 14 (some 62) (v := ?_) rfl rfl (by kernel_rfl) (fun _ _ _ h => h) (.val rfl (fun wz hwz => ?_)) ?_
          rotate_left
          · go_simp; try (with_reducible rfl)
          (simp only [Act.put]); (try simp only [List.setIfInBounds_toArray]); (try simp only [List.set_cons_succ]); (try simp only [List.set_cons_zero])
          refine WpH.takeD 15 (some 63) (v := ?_) rfl rfl (by kernel_rfl) (fun _ _ _ h => h) (.val rfl (fun wz hwz => ?_)) ?_
          rotate_left
          · (obtain ⟨hcz, hfz⟩ := bcell hwz; go_simp; try (with_reducible rfl))
          (simp only [Act.put]); (try simp only [List.setIfInBounds_toArray]); (try simp only [List.set_cons_succ]); (try simp only [List.set_cons_zero])
          refine WpH.takeD 16 (some 64) (v := ?_) rfl rfl (by kernel_rfl) (fun _ _ _ h => h) (.val rfl (fun wz hwz => ?_)) ?_
          rotate_left
          · go_simp; try (with_reducible rfl)
          (simp only [Act.put]); (try simp only [List.setIfInBounds_toArray]); (try simp only [List.set_cons_succ]); (try simp only [List.set_cons_zero])
          refine WpH.takeD 17 (some 65) rfl rfl (by kernel_rfl) (fun _ _ _ h => h) (.call rfl (fun wz hwz => HNM.out wz (hbw.trans (hwz.mono hbw.size))) (fun wz hwz => ?_)) ?_
          · go_simp; try (with_reducible rfl)
          (simp only [Act.put]); (try simp only [List.setIfInBounds_toArray]); (try simp only [List.set_cons_succ]); (try simp only [List.set_cons_zero])
          refine WpH.takeD 18 (some 66) (v := ?_) rfl rfl (by kernel_rfl) (fun _ _ _ h => h) (.val rfl (fun wz hwz => ?_)) ?_
          rotate_left
          · go_simp; try (with_reducible rfl)
          (simp only [Act.put]); (try simp only [List.setIfInBounds_toArray]); (try simp only [List.set_cons_succ]); (try simp only [List.set_cons_zero])
          refine WpH.doneB (by kernel_rfl) (fun w5 hw5 => ?_)
          (try simp only [List.drop_succ_cons]); (try simp only [List.drop_zero]); (try simp only [Nat.reduceSub]); (try simp only [List.take_succ_cons]); (try simp only [List.take_zero])
          clear x0 x1 x2 x3 x4 x5 x6 x7 x8 x9 x10 x11 x12
          replace hbw := bl_call hbw (Nat.le_refl _) hw5
          replace hx := hx.call hw5
          go_wp2_with fail
          exact bodyPost_ret (v := .bool false) (by simp [results, Try.results42, go_sem]) rfl ⟨⟨false, rfl, by simp; exact HG.out⟩, hbw⟩
end

end Go.Proofs.Ytiphahbeedeebaa

namespace Go.Proofs.Ytiphahbeedeebaa
open Go.RowKit Fm
set_option linter.unusedVariables false
set_option maxRecDepth 100000

/-- powers -/
def kpw {f : Nat} (x : Fin (Pm f)) : Nat → Fin (Pm f)
  | 0 => 1
  | n + 1 => kpw x n * x
theorem kpw_add {f : Nat} (x : Fin (Pm f)) (m : Nat) : ∀ n, kpw x (m + n) = kpw x m * kpw x n
  | 0 => by
    show kpw x m = kpw x m * 1
    grind
  | n + 1 => by
    show kpw x (m + n) * x = kpw x m * (kpw x n * x)
    rw [kpw_add x m n]
    grind
theorem kpw_bit {f : Nat} (x : Fin (Pm f)) (n k : Nat) : kpw x (n % 2 ^ (k + 1)) = if n / 2 ^ k % 2 = 1 then kpw x (n % 2 ^ k) * kpw x (2 ^ k) else kpw x (n % 2 ^ k) := by
  rw [Nat.mod_pow_succ]
  rcases (by omega : n / 2 ^ k % 2 = 0 ∨ n / 2 ^ k % 2 = 1) with h | h
  · rw [h, if_neg (by omega), Nat.mul_zero, Nat.add_zero]
  · rw [h, if_pos rfl, Nat.mul_one, kpw_add]
theorem kpw_twice {f : Nat} (x : Fin (Pm f)) (k : Nat) : kpw x (2 ^ (k + 1)) = kpw x (2 ^ k) * kpw x (2 ^ k) := by
  rw [Nat.pow_succ, Nat.mul_two, kpw_add]
theorem bit_of (n0 n1 k : Nat) (h0 : n0 ≤ 18446744073709551615) (hk : k < 128) : (n0 + 18446744073709551616 * n1) / 2 ^ k % 2 = (if k < 64 then n0 else n1) / 2 ^ (k % 64) % 2 := by
  by_cases h : k < 64
  · rw [if_pos h, Nat.mod_eq_of_lt h]
    rw [show 18446744073709551616 * n1 = 2 ^ k * (2 * (2 ^ (63 - k) * n1)) by
      rw [← Nat.mul_assoc 2, ← Nat.pow_succ', ← Nat.mul_assoc, ← Nat.pow_add, show k + (63 - k).succ = 64 by omega], Nat.add_mul_div_left _ _ (Nat.two_pow_pos k), Nat.add_mul_mod_self_left]
  · rw [if_neg h]
    have h1 : (n0 + 18446744073709551616 * n1) / 2 ^ 64 = n1 := by omega
    have h2 : 2 ^ k = 2 ^ 64 * 2 ^ (k % 64) := by rw [← Nat.pow_add, show 64 + k % 64 = k by omega]
    rw [h2, ← Nat.div_div_eq_div_mul, h1]

set_option maxHeartbeats 4000000 in
theorem wide_Pow (a0 a1 : Int) (n0 n1 : Nat) (w : World) (h0 : 0 ≤ a0) (h1 : a0 ≤ 18446744073709551615) (k0 : 0 ≤ a1) (k1 : a1 ≤ 18446744073709551615) (g0 : n0 ≤ 18446744073709551615) (g1 : n1 ≤ 18446744073709551615) :
    Calls Try.prog 145 #[.agg #[.int .u64 a0, .int .u64 a1], .agg #[.int .u64 n0, .int .u64 n1]] w (RetK (kpw (kL 2 a0 a1) (n0 + 18446744073709551616 * n1)) w) := by
  have HO := Lib.hid (fun wz => wide_OfK a0 a1 wz h0 h1 k0 k1)
  have HB := Lib.hid (fun k hk => bit_of n0 n1 k g0 hk)
  generalize kL 2 a0 a1 = x at *
  have HMU : Hid (∀ (y z : Fin (Pm 2)) wz, Calls Try.prog 119 #[vK y, vK z] wz (RetK (y * z) wz)) := fun y z wz => by
    have h := wide_MulL (lo y) (hi y) (lo z) (hi z) wz (lo_0 y) (lo_1 y) (hi_0 y) (hi_1 y) (lo_0 z) (lo_1 z) (hi_0 z) (hi_1 z)
    rwa [kL_lohi, kL_lohi] at h
  have HNL : Hid ((n0 + 18446744073709551616 * n1) % 2 ^ 128 = n0 + 18446744073709551616 * n1) := Nat.mod_eq_of_lt (by omega)
  generalize n0 + 18446744073709551616 * n1 = N at *
  have HP0 : Hid (kpw x (2 ^ 0) = x) := by show 1 * x = x; grind
  have HM0 : Hid (kpw x (N % 2 ^ 0) = 1) := by show _ = _; rw [Nat.pow_zero, Nat.mod_one]; rfl
  go_enter Try.func145, Try.ntmps145
  go_upto_region 1 with fail
  have q0 := ((V2.new w (.int .u64 a0) (.int .u64 a1) 41).alloc (.cells #[(.int .u64 n0), (.int .u64 n1)] 41)).alloc (.cells #[(.int .u64 0), (.int .u64 0)] 41)
  have t0 := (V2.new (w.alloc (.cells #[(.int .u64 a0), (.int .u64 a1)] 41)) (.int .u64 n0) (.int .u64 n1) 41).alloc (.cells #[(.int .u64 0), (.int .u64 0)] 41)
  have s0 := V2.new ((w.alloc (.cells #[(.int .u64 a0), (.int .u64 a1)] 41)).alloc (.cells #[(.int .u64 n0), (.int .u64 n1)] 41)) (.int .u64 0) (.int .u64 0) 41
  simp only [World.size_alloc] at t0 s0
  have hb00 : Below w.heap.size w (((w.alloc (.cells #[(.int .u64 a0), (.int .u64 a1)] 41)).alloc (.cells #[(.int .u64 n0), (.int .u64 n1)] 41)).alloc (.cells #[(.int .u64 0), (.int .u64 0)] 41)) := by repeat (first | exact Below.refl _ _ | with_reducible assumption | (refine bl_alloc ?_ (Nat.le_refl _) _))
  have hsz : w.heap.size + 3 ≤ (((w.alloc (.cells #[(.int .u64 a0), (.int .u64 a1)] 41)).alloc (.cells #[(.int .u64 n0), (.int .u64 n1)] 41)).alloc (.cells #[(.int .u64 0), (.int .u64 0)] 41)).heap.size := by simp only [World.size_alloc]; omega
  generalize (((w.alloc (.cells #[(.int .u64 a0), (.int .u64 a1)] 41)).alloc (.cells #[(.int .u64 n0), (.int .u64 n1)] 41)).alloc (.cells #[(.int .u64 0), (.int .u64 0)] 41)) = w1 at q0 t0 s0 hb00 hsz ⊢
  go_upto_region 2 with fail
  have o0 := V2.new w1 (.int .u64 1) (.int .u64 0) 41
  have hbA : Below w1.heap.size w1 (w1.alloc (.cells #[.int .u64 1, .int .u64 0] 41)) := by repeat (first | exact Below.refl _ _ | with_reducible assumption | (refine bl_alloc ?_ (Nat.le_refl _) _))
  replace hb00 := bl_call hb00 (Nat.le_refl _) hbA
  replace q0 := q0.call hbA
  replace t0 := t0.call hbA
  replace s0 := s0.call hbA
  clear hbA
  generalize w1.alloc (.cells #[.int .u64 1, .int .u64 0] 41) = w2 at hb00 q0 t0 s0 o0 ⊢
  have hob := hsz
  generalize w1.heap.size = ob at *
  obtain ⟨q00, q01, q02, q03, q04⟩ := V2.mk q0.c0 q0.c1 q0.f0 q0.f1 q0.lt
  go_upto_region 3 with (first
    | (go_at_call 125; refine (HO.out _).mono ?_; rintro e w3 ⟨rfl, hb3⟩; replace hb00 := bl_call hb00 (Nat.le_refl _) hb3; replace q0 := q0.call hb3; replace t0 := t0.call hb3; replace s0 := s0.call hb3; replace o0 := o0.call hb3; clear q00 q01 q02 q03 q04; clear hb3; obtain ⟨q00, q01, q02, q03, q04⟩ := V2.mk q0.c0 q0.c1 q0.f0 q0.f1 q0.lt))
  clear q00 q01 q02 q03 q04
  replace q0 : V2 ((w3.setCell ⟨w.heap.size, 0, none⟩ (.int .u64 (lo x))).setCell ⟨w.heap.size, 1, none⟩ (.int .u64 (hi x))) (w.heap.size) (.int .u64 (lo x)) (.int .u64 (hi x)) := V2.set q0 _ _
  replace t0 := V2.oth t0 (b := w.heap.size) (by omega) (.int .u64 (lo x)) (.int .u64 (hi x))
  replace s0 := V2.oth s0 (b := w.heap.size) (by omega) (.int .u64 (lo x)) (.int .u64 (hi x))
  replace o0 := V2.oth o0 (b := w.heap.size) (by omega) (.int .u64 (lo x)) (.int .u64 (hi x))
  replace hb00 := bl_st hb00 (b := w.heap.size) (by omega) (.int .u64 (lo x)) (.int .u64 (hi x))
  generalize ((w3.setCell ⟨w.heap.size, 0, none⟩ (.int .u64 (lo x))).setCell ⟨w.heap.size, 1, none⟩ (.int .u64 (hi x))) = w4 at q0 t0 s0 o0 hb00 ⊢
  clear HO hsz
  go_wp2_with fail
  go_loopw [10] (fun i wr => ∃ (k : Nat) (y o : Fin (Pm 2)), k ≤ 128 ∧ i = .int .i64 k ∧ Hid (y = kpw x (2 ^ k)) ∧ Hid (o = kpw x (N % 2 ^ k)) ∧ V2 wr w.heap.size (.int .u64 (lo y)) (.int .u64 (hi y)) ∧ V2 wr (w.heap.size + 1) (.int .u64 n0) (.int .u64 n1) ∧ V2 wr (w.heap.size + 2) (.int .u64 0) (.int .u64 0) ∧
    V2 wr ob (.int .u64 (lo o)) (.int .u64 (hi o)) ∧ Below w.heap.size w wr) (fun i _ => 128 - (intOf i).toNat)
  case atStart => exact ⟨0, x, 1, by omega, rfl, HP0.out.symm, HM0.out.symm, q0, t0, s0, by rw [lo_one, hi_one]; exact o0, hb00⟩
  case round =>
    clear q0 t0 s0 o0 hb00
    obtain ⟨k, y, o, hk, rfl, hy, ho, q0, t0, s0, o0, hb00⟩ := hrel
    by_cases hlt : k < 128
    · have HY2 : Hid (y * y = kpw x (2 ^ (k + 1))) := by show _ = _; rw [kpw_twice, hy.out]
      have HKB := Lib.hid (kpw_bit x N k)
      by_cases h : k < 64
      · skip
        have hq0 : (k : Int) / 64 = 0 := by omega
        have hbit := HB.out k hlt
        rw [if_pos h] at hbit
        obtain ⟨c, hc⟩ : ∃ c, k % 64 = c := ⟨_, rfl⟩
        have hir : (k : Int) % 64 = (c : Int) := by omega
        have hc64 : c < 64 := by omega
        have hc0 : (0 : Int) ≤ (c : Int) := by omega
        rw [hc] at hbit
        obtain ⟨d, hd⟩ : ∃ d, n0 / 2 ^ c % 2 = d := ⟨_, rfl⟩
        have hd2 : d = 0 ∨ d = 1 := by rw [← hd]; omega
        have hand : bits .and .u64 ((n0 : Int) / 2 ^ c) 1 = (d : Int) := by
          rw [show (n0 : Int) / 2 ^ c = ((n0 / 2 ^ c : Nat) : Int) by rw [Int.natCast_ediv, Int.natCast_pow]; rfl, show (1 : Int) = ((1 : Nat) : Int) from rfl,
            bits_and_u64_nat _ _ (Nat.lt_of_le_of_lt (Nat.div_le_self _ _) (by omega)) (by omega), Nat.and_one_is_mod, hd]
        have HBD := Lib.hid (hbit.trans hd)
        clear hbit hd hc h
        obtain ⟨q00, q01, q02, q03, q04⟩ := V2.mk q0.c0 q0.c1 q0.f0 q0.f1 q0.lt
        obtain ⟨t00, t01, t02, t03, t04⟩ := V2.mk t0.c0 t0.c1 t0.f0 t0.f1 t0.lt
        obtain ⟨o00, o01, o02, o03, o04⟩ := V2.mk o0.c0 o0.c1 o0.f0 o0.f1 o0.lt
        rcases hd2 with rfl | rfl
        · have HKN : Hid (o = kpw x (N % 2 ^ (k + 1))) := by show _ = _; rw [HKB.out, HBD.out, if_neg (by omega), ho.out]
          go_upto_region 9 with (first
            | (go_at_call 119; refine (HMU.out _ _ _).mono ?_; rintro e w5 ⟨rfl, hb5⟩; replace hb00 := bl_call hb00 (Nat.le_refl _) hb5; replace q0 := q0.call hb5; replace t0 := t0.call hb5; replace s0 := s0.call hb5; replace o0 := o0.call hb5; clear q00 q01 q02 q03 q04 t00 t01 t02 t03 t04 o00 o01 o02 o03 o04; clear hb5; obtain ⟨q00, q01, q02, q03, q04⟩ := V2.mk q0.c0 q0.c1 q0.f0 q0.f1 q0.lt; obtain ⟨t00, t01, t02, t03, t04⟩ := V2.mk t0.c0 t0.c1 t0.f0 t0.f1 t0.lt; obtain ⟨o00, o01, o02, o03, o04⟩ := V2.mk o0.c0 o0.c1 o0.f0 o0.f1 o0.lt))
          clear q00 q01 q02 q03 q04 t00 t01 t02 t03 t04 o00 o01 o02 o03 o04
          replace q0 : V2 ((w5.setCell ⟨w.heap.size, 0, none⟩ (.int .u64 (lo (y * y)))).setCell ⟨w.heap.size, 1, none⟩ (.int .u64 (hi (y * y)))) (w.heap.size) (.int .u64 (lo (y * y))) (.int .u64 (hi (y * y))) := V2.set q0 _ _
          replace t0 := V2.oth t0 (b := w.heap.size) (by omega) (.int .u64 (lo (y * y))) (.int .u64 (hi (y * y)))
          replace s0 := V2.oth s0 (b := w.heap.size) (by omega) (.int .u64 (lo (y * y))) (.int .u64 (hi (y * y)))
          replace o0 := V2.oth o0 (b := w.heap.size) (by omega) (.int .u64 (lo (y * y))) (.int .u64 (hi (y * y)))
          replace hb00 := bl_st hb00 (b := w.heap.size) (by omega) (.int .u64 (lo (y * y))) (.int .u64 (hi (y * y)))
          generalize ((w5.setCell ⟨w.heap.size, 0, none⟩ (.int .u64 (lo (y * y)))).setCell ⟨w.heap.size, 1, none⟩ (.int .u64 (hi (y * y)))) = w6 at q0 t0 s0 o0 hb00 ⊢
          go_wp2_with fail
          go_roundw
          case rel => exact ⟨k + 1, _, _, by omega, by go_num, HY2, HKN, q0, t0, s0, o0, hb00⟩
          case measure => simp [intOf]; omega
        · have HKN : Hid (o * y = kpw x (N % 2 ^ (k + 1))) := by show _ = _; rw [HKB.out, HBD.out, if_pos rfl, ho.out, hy.out]
          go_upto_region 8 with (first
            | (go_at_call 119; refine (HMU.out _ _ _).mono ?_; rintro e w5 ⟨rfl, hb5⟩; replace hb00 := bl_call hb00 (Nat.le_refl _) hb5; replace q0 := q0.call hb5; replace t0 := t0.call hb5; replace s0 := s0.call hb5; replace o0 := o0.call hb5; clear q00 q01 q02 q03 q04 t00 t01 t02 t03 t04 o00 o01 o02 o03 o04; clear hb5; obtain ⟨q00, q01, q02, q03, q04⟩ := V2.mk q0.c0 q0.c1 q0.f0 q0.f1 q0.lt; obtain ⟨t00, t01, t02, t03, t04⟩ := V2.mk t0.c0 t0.c1 t0.f0 t0.f1 t0.lt; obtain ⟨o00, o01, o02, o03, o04⟩ := V2.mk o0.c0 o0.c1 o0.f0 o0.f1 o0.lt))
          clear q00 q01 q02 q03 q04 t00 t01 t02 t03 t04 o00 o01 o02 o03 o04
          replace o0 : V2 ((w5.setCell ⟨ob, 0, none⟩ (.int .u64 (lo (o * y)))).setCell ⟨ob, 1, none⟩ (.int .u64 (hi (o * y)))) (ob) (.int .u64 (lo (o * y))) (.int .u64 (hi (o * y))) := V2.set o0 _ _
          replace q0 := V2.oth q0 (b := ob) (by omega) (.int .u64 (lo (o * y))) (.int .u64 (hi (o * y)))
          replace t0 := V2.oth t0 (b := ob) (by omega) (.int .u64 (lo (o * y))) (.int .u64 (hi (o * y)))
          replace s0 := V2.oth s0 (b := ob) (by omega) (.int .u64 (lo (o * y))) (.int .u64 (hi (o * y)))
          replace hb00 := bl_st hb00 (b := ob) (by omega) (.int .u64 (lo (o * y))) (.int .u64 (hi (o * y)))
          generalize ((w5.setCell ⟨ob, 0, none⟩ (.int .u64 (lo (o * y)))).setCell ⟨ob, 1, none⟩ (.int .u64 (hi (o * y)))) = w6 at o0 q0 t0 s0 hb00 ⊢
          obtain ⟨q00, q01, q02, q03, q04⟩ := V2.mk q0.c0 q0.c1 q0.f0 q0.f1 q0.lt
          obtain ⟨t00, t01, t02, t03, t04⟩ := V2.mk t0.c0 t0.c1 t0.f0 t0.f1 t0.lt
          obtain ⟨o00, o01, o02, o03, o04⟩ := V2.mk o0.c0 o0.c1 o0.f0 o0.f1 o0.lt
          go_upto_region 9 with (first
            | (go_at_call 119; refine (HMU.out _ _ _).mono ?_; rintro e w7 ⟨rfl, hb7⟩; replace hb00 := bl_call hb00 (Nat.le_refl _) hb7; replace q0 := q0.call hb7; replace t0 := t0.call hb7; replace s0 := s0.call hb7; replace o0 := o0.call hb7; clear q00 q01 q02 q03 q04 t00 t01 t02 t03 t04 o00 o01 o02 o03 o04; clear hb7; obtain ⟨q00, q01, q02, q03, q04⟩ := V2.mk q0.c0 q0.c1 q0.f0 q0.f1 q0.lt; obtain ⟨t00, t01, t02, t03, t04⟩ := V2.mk t0.c0 t0.c1 t0.f0 t0.f1 t0.lt; obtain ⟨o00, o01, o02, o03, o04⟩ := V2.mk o0.c0 o0.c1 o0.f0 o0.f1 o0.lt))
          clear q00 q01 q02 q03 q04 t00 t01 t02 t03 t04 o00 o01 o02 o03 o04
          replace q0 : V2 ((w7.setCell ⟨w.heap.size, 0, none⟩ (.int .u64 (lo (y * y)))).setCell ⟨w.heap.size, 1, none⟩ (.int .u64 (hi (y * y)))) (w.heap.size) (.int .u64 (lo (y * y))) (.int .u64 (hi (y * y))) := V2.set q0 _ _
          replace t0 := V2.oth t0 (b := w.heap.size) (by omega) (.int .u64 (lo (y * y))) (.int .u64 (hi (y * y)))
          replace s0 := V2.oth s0 (b := w.heap.size) (by omega) (.int .u64 (lo (y * y))) (.int .u64 (hi (y * y)))
          replace o0 := V2.oth o0 (b := w.heap.size) (by omega) (.int .u64 (lo (y * y))) (.int .u64 (hi (y * y)))
          replace hb00 := bl_st hb00 (b := w.heap.size) (by omega) (.int .u64 (lo (y * y))) (.int .u64 (hi (y * y)))
          generalize ((w7.setCell ⟨w.heap.size, 0, none⟩ (.int .u64 (lo (y * y)))).setCell ⟨w.heap.size, 1, none⟩ (.int .u64 (hi (y * y)))) = w8 at q0 t0 s0 o0 hb00 ⊢
          go_wp2_with fail
          go_roundw
          case rel => exact ⟨k + 1, _, _, by omega, by go_num, HY2, HKN, q0, t0, s0, o0, hb00⟩
          case measure => simp [intOf]; omega
      · skip
        have hq0 : (k : Int) / 64 = 1 := by omega
        have hbit := HB.out k hlt
        rw [if_neg h] at hbit
        obtain ⟨c, hc⟩ : ∃ c, k % 64 = c := ⟨_, rfl⟩
        have hir : (k : Int) % 64 = (c : Int) := by omega
        have hc64 : c < 64 := by omega
        have hc0 : (0 : Int) ≤ (c : Int) := by omega
        rw [hc] at hbit
        obtain ⟨d, hd⟩ : ∃ d, n1 / 2 ^ c % 2 = d := ⟨_, rfl⟩
        have hd2 : d = 0 ∨ d = 1 := by rw [← hd]; omega
        have hand : bits .and .u64 ((n1 : Int) / 2 ^ c) 1 = (d : Int) := by
          rw [show (n1 : Int) / 2 ^ c = ((n1 / 2 ^ c : Nat) : Int) by rw [Int.natCast_ediv, Int.natCast_pow]; rfl, show (1 : Int) = ((1 : Nat) : Int) from rfl,
            bits_and_u64_nat _ _ (Nat.lt_of_le_of_lt (Nat.div_le_self _ _) (by omega)) (by omega), Nat.and_one_is_mod, hd]
        have HBD := Lib.hid (hbit.trans hd)
        clear hbit hd hc h
        obtain ⟨q00, q01, q02, q03, q04⟩ := V2.mk q0.c0 q0.c1 q0.f0 q0.f1 q0.lt
        obtain ⟨t00, t01, t02, t03, t04⟩ := V2.mk t0.c0 t0.c1 t0.f0 t0.f1 t0.lt
        obtain ⟨o00, o01, o02, o03, o04⟩ := V2.mk o0.c0 o0.c1 o0.f0 o0.f1 o0.lt
        rcases hd2 with rfl | rfl
        · have HKN : Hid (o = kpw x (N % 2 ^ (k + 1))) := by show _ = _; rw [HKB.out, HBD.out, if_neg (by omega), ho.out]
          go_upto_region 9 with (first
            | (go_at_call 119; refine (HMU.out _ _ _).mono ?_; rintro e w5 ⟨rfl, hb5⟩; replace hb00 := bl_call hb00 (Nat.le_refl _) hb5; replace q0 := q0.call hb5; replace t0 := t0.call hb5; replace s0 := s0.call hb5; replace o0 := o0.call hb5; clear q00 q01 q02 q03 q04 t00 t01 t02 t03 t04 o00 o01 o02 o03 o04; clear hb5; obtain ⟨q00, q01, q02, q03, q04⟩ := V2.mk q0.c0 q0.c1 q0.f0 q0.f1 q0.lt; obtain ⟨t00, t01, t02, t03, t04⟩ := V2.mk t0.c0 t0.c1 t0.f0 t0.f1 t0.lt; obtain ⟨o00, o01, o02, o03, o04⟩ := V2.mk o0.c0 o0.c1 o0.f0 o0.f1 o0.lt))
          clear q00 q01 q02 q03 q04 t00 t01 t02 t03 t04 o00 o01 o02 o03 o04
          replace q0 : V2 ((w5.setCell ⟨w.heap.size, 0, none⟩ (.int .u64 (lo (y * y)))).setCell ⟨w.heap.size, 1, none⟩ (.int .u64 (hi (y * y)))) (w.heap.size) (.int .u64 (lo (y * y))) (.int .u64 (hi (y * y))) := V2.set q0 _ _
          replace t0 := V2.oth t0 (b := w.heap.size) (by omega) (.int .u64 (lo (y * y))) (.int .u64 (hi (y * y)))
          replace s0 := V2.oth s0 (b := w.heap.size) (by omega) (.int .u64 (lo (y * y))) (.int .u64 (hi (y * y)))
          replace o0 := V2.oth o0 (b := w.heap.size) (by omega) (.int .u64 (lo (y * y))) (.int .u64 (hi (y * y)))
          replace hb00 := bl_st hb00 (b := w.heap.size) (by omega) (.int .u64 (lo (y * y))) (.int .u64 (hi (y * y)))
          generalize ((w5.setCell ⟨w.heap.size, 0, none⟩ (.int .u64 (lo (y * y)))).setCell ⟨w.heap.size, 1, none⟩ (.int .u64 (hi (y * y)))) = w6 at q0 t0 s0 o0 hb00 ⊢
          go_wp2_with fail
          go_roundw
          case rel => exact ⟨k + 1, _, _, by omega, by go_num, HY2, HKN, q0, t0, s0, o0, hb00⟩
          case measure => simp [intOf]; omega
        · have HKN : Hid (o * y = kpw x (N % 2 ^ (k + 1))) := by show _ = _; rw [HKB.out, HBD.out, if_pos rfl, ho.out, hy.out]
          go_upto_region 8 with (first
            | (go_at_call 119; refine (HMU.out _ _ _).mono ?_; rintro e w5 ⟨rfl, hb5⟩; replace hb00 := bl_call hb00 (Nat.le_refl _) hb5; replace q0 := q0.call hb5; replace t0 := t0.call hb5; replace s0 := s0.call hb5; replace o0 := o0.call hb5; clear q00 q01 q02 q03 q04 t00 t01 t02 t03 t04 o00 o01 o02 o03 o04; clear hb5; obtain ⟨q00, q01, q02, q03, q04⟩ := V2.mk q0.c0 q0.c1 q0.f0 q0.f1 q0.lt; obtain ⟨t00, t01, t02, t03, t04⟩ := V2.mk t0.c0 t0.c1 t0.f0 t0.f1 t0.lt; obtain ⟨o00, o01, o02, o03, o04⟩ := V2.mk o0.c0 o0.c1 o0.f0 o0.f1 o0.lt))
          clear q00 q01 q02 q03 q04 t00 t01 t02 t03 t04 o00 o01 o02 o03 o04
          replace o0 : V2 ((w5.setCell ⟨ob, 0, none⟩ (.int .u64 (lo (o * y)))).setCell ⟨ob, 1, none⟩ (.int .u64 (hi (o * y)))) (ob) (.int .u64 (lo (o * y))) (.int .u64 (hi (o * y))) := V2.set o0 _ _
          replace q0 := V2.oth q0 (b := ob) (by omega) (.int .u64 (lo (o * y))) (.int .u64 (hi (o * y)))
          replace t0 := V2.oth t0 (b := ob) (by omega) (.int .u64 (lo (o * y))) (.int .u64 (hi (o * y)))
          replace s0 := V2.oth s0 (b := ob) (by omega) (.int .u64 (lo (o * y))) (.int .u64 (hi (o * y)))
          replace hb00 := bl_st hb00 (b := ob) (by omega) (.int .u64 (lo (o * y))) (.int .u64 (hi (o * y)))
          generalize ((w5.setCell ⟨ob, 0, none⟩ (.int .u64 (lo (o * y)))).setCell ⟨ob, 1, none⟩ (.int .u64 (hi (o * y)))) = w6 at o0 q0 t0 s0 hb00 ⊢
          obtain ⟨q00, q01, q02, q03, q04⟩ := V2.mk q0.c0 q0.c1 q0.f0 q0.f1 q0.lt
          obtain ⟨t00, t01, t02, t03, t04⟩ := V2.mk t0.c0 t0.c1 t0.f0 t0.f1 t0.lt
          obtain ⟨o00, o01, o02, o03, o04⟩ := V2.mk o0.c0 o0.c1 o0.f0 o0.f1 o0.lt
          go_upto_region 9 with (first
            | (go_at_call 119; refine (HMU.out _ _ _).mono ?_; rintro e w7 ⟨rfl, hb7⟩; replace hb00 := bl_call hb00 (Nat.le_refl _) hb7; replace q0 := q0.call hb7; replace t0 := t0.call hb7; replace s0 := s0.call hb7; replace o0 := o0.call hb7; clear q00 q01 q02 q03 q04 t00 t01 t02 t03 t04 o00 o01 o02 o03 o04; clear hb7; obtain ⟨q00, q01, q02, q03, q04⟩ := V2.mk q0.c0 q0.c1 q0.f0 q0.f1 q0.lt; obtain ⟨t00, t01, t02, t03, t04⟩ := V2.mk t0.c0 t0.c1 t0.f0 t0.f1 t0.lt; obtain ⟨o00, o01, o02, o03, o04⟩ := V2.mk o0.c0 o0.c1 o0.f0 o0.f1 o0.lt))
          clear q00 q01 q02 q03 q04 t00 t01 t02 t03 t04 o00 o01 o02 o03 o04
          replace q0 : V2 ((w7.setCell ⟨w.heap.size, 0, none⟩ (.int .u64 (lo (y * y)))).setCell ⟨w.heap.size, 1, none⟩ (.int .u64 (hi (y * y)))) (w.heap.size) (.int .u64 (lo (y * y))) (.int .u64 (hi (y * y))) := V2.set q0 _ _
          replace t0 := V2.oth t0 (b := w.heap.size) (by omega) (.int .u64 (lo (y * y))) (.int .u64 (hi (y * y)))
          replace s0 := V2.oth s0 (b := w.heap.size) (by omega) (.int .u64 (lo (y * y))) (.int .u64 (hi (y * y)))
          replace o0 := V2.oth o0 (b := w.heap.size) (by omega) (.int .u64 (lo (y * y))) (.int .u64 (hi (y * y)))
          replace hb00 := bl_st hb00 (b := w.heap.size) (by omega) (.int .u64 (lo (y * y))) (.int .u64 (hi (y * y)))
          generalize ((w7.setCell ⟨w.heap.size, 0, none⟩ (.int .u64 (lo (y * y)))).setCell ⟨w.heap.size, 1, none⟩ (.int .u64 (hi (y * y)))) = w8 at q0 t0 s0 o0 hb00 ⊢
          go_wp2_with fail
          go_roundw
          case rel => exact ⟨k + 1, _, _, by omega, by go_num, HY2, HKN, q0, t0, s0, o0, hb00⟩
          case measure => simp [intOf]; omega
    · obtain rfl : k = 128 := by omega
      obtain ⟨o00, o01, o02, o03, o04⟩ := V2.mk o0.c0 o0.c1 o0.f0 o0.f1 o0.lt
      obtain ⟨s00, s01, s02, s03, s04⟩ := V2.mk s0.c0 s0.c1 s0.f0 s0.f1 s0.lt
      go_wp2_with fail
      refine bodyPost_ret (results_v2 (b := w.heap.size + 2) (u := .int .u64 (lo o)) (v := .int .u64 (hi o)) ?_ rfl rfl) rfl ⟨by rw [← HNL.out, ← ho.out], by repeat (first | exact Below.refl _ _ | with_reducible assumption | (refine bl_alloc ?_ (Nat.le_refl _) _) | (refine bl_set ?_ (by dsimp only; omega) _) | (refine Below.drew ?_) | (refine bl_drewN ?_ _) | (refine bl_call ?_ (Nat.le_refl _) (by assumption)))⟩
      exact V2.set s0 _ _

/-! ### inverses -/
/-- the power that inverts -/
def kinv {f : Nat} (x : Fin (Pm f)) : Fin (Pm f) := kpw x (Pm f - 2)

set_option maxHeartbeats 1000000 in
theorem gold_Inv (a : Int) (w : World) (h0 : 0 ≤ a) (h1 : a ≤ 18446744073709551615) :
    Calls Try.prog 129 #[.int .u64 a] w fun e w' => (a % 18446744069414584321 = 0 ∧ e = .returned (.tuple #[.int .u64 0, .int .i64 8]) ∧ w = w') ∨ (a % 18446744069414584321 ≠ 0 ∧ e = .returned (.tuple #[.int .u64 (ipow a 18446744069414584319 % 18446744069414584321), .int .i64 0]) ∧ w = w') := by
  obtain ⟨en, hen⟩ : ∃ en : Nat, en = 18446744069414584319 := ⟨_, rfl⟩
  rw [← hen]
  have HP : Hid (∀ wz, Calls Try.prog 144 #[.int .u64 a, .int .u64 18446744069414584319] wz fun e w' => e = .returned (.int .u64 (ipow a en % 18446744069414584321)) ∧ wz = w') := fun wz => by
    have h := gold_Pow a 18446744069414584319 wz h0 h1 (by omega) (by omega)
    rwa [show (18446744069414584319 : Int).toNat = en by omega] at h
  clear hen
  go_enter Try.func129, Try.ntmps129
  by_cases hz : a % 18446744069414584321 = 0
  · have hz2 : (a % 18446744069414584321 == 0) = true := by simpa using hz
    go_wp2_with (first
      | (go_at_call 122; refine (gold_Of _ _ (by omega) (by omega)).mono ?_; rintro e w' ⟨rfl, rfl⟩))
    go_ret2
    exact .inl ⟨hz, rfl, rfl⟩
  · have hz2 : (a % 18446744069414584321 == 0) = false := by simpa using hz
    have HZ := Lib.hid hz
    clear hz
    go_wp2_with (first
      | (go_at_call 122; refine (gold_Of _ _ (by omega) (by omega)).mono ?_; rintro e w' ⟨rfl, rfl⟩)
      | (go_at_call 144; refine (HP.out _).mono ?_; rintro e w' ⟨rfl, rfl⟩))
    go_ret2
    exact .inr ⟨HZ.out, rfl, rfl⟩

set_option maxHeartbeats 2000000 in
theorem wide_Inv (x : Fin (Pm 2)) (w : World) :
    Calls Try.prog 130 #[vK x] w fun e w' => (x = 0 ∧ e = .returned (.tuple #[.agg #[.int .u64 0, .int .u64 0], .int .i64 8]) ∧ Below w.heap.size w w') ∨ (x ≠ 0 ∧ e = .returned (.tuple #[vK (kinv x), .int .i64 0]) ∧ Below w.heap.size w w') := by
  have HP : Hid (∀ wz, Calls Try.prog 145 #[.agg #[.int .u64 (lo x), .int .u64 (hi x)], .agg #[.int .u64 18446744073709551615, .int .u64 18446744073709551587]] wz (RetK (kinv x) wz)) := fun wz => by
    have h := wide_Pow (lo x) (hi x) 18446744073709551615 18446744073709551587 wz (lo_0 x) (lo_1 x) (hi_0 x) (hi_1 x) (by omega) (by omega)
    rwa [kL_lohi, show 18446744073709551615 + 18446744073709551616 * 18446744073709551587 = Pm 2 - 2 from rfl] at h
  have HO : Hid (∀ wz, Calls Try.prog 125 #[.agg #[.int .u64 (lo x), .int .u64 (hi x)]] wz fun e w' => e = .returned (.agg #[.int .u64 (lo x), .int .u64 (hi x)]) ∧ Below wz.heap.size wz w') := fun wz => by
    have h := wide_OfK (lo x) (hi x) wz (lo_0 x) (lo_1 x) (hi_0 x) (hi_1 x)
    rw [kL_lohi] at h
    exact h
  have HT : Hid (∀ wz, Calls Try.prog 126 #[.agg #[.int .u64 1, .int .u64 18446744073709551588], .agg #[.int .u64 2, .int .u64 0]] wz fun e w' => e = .returned (.agg #[.int .u64 18446744073709551615, .int .u64 18446744073709551587]) ∧ Below wz.heap.size wz w') := fun wz =>
    wide_take 1 18446744073709551588 2 0 wz (by omega) (by omega) (by omega) (by omega) (by omega) (by omega) (by omega) (by omega) 340282366920938462946865773367900766207 (by show _ = _; omega)
  obtain ⟨b, hb⟩ : ∃ b : Bool, (lo x == 0 && hi x == 0) = b := ⟨_, rfl⟩
  have hz : (x = 0 ∧ b = true) ∨ (x ≠ 0 ∧ b = false) := by
    have h := lohi_eq x 0
    rw [lo_zero, hi_zero, hb] at h
    by_cases hx : x = 0
    · exact .inl ⟨hx, by rw [h]; simpa using hx⟩
    · exact .inr ⟨hx, by rw [h]; simpa using hx⟩
  generalize kinv x = y at *
  show Calls Try.prog 130 #[.agg #[.int .u64 (lo x), .int .u64 (hi x)]] w _
  generalize lo x = a0 at *
  generalize hi x = a1 at *
  have heq := eql_elem
  go_enter Try.func130, Try.ntmps130
  go_upto_region 1 with fail
  have q0 := (V2.new w (.int .u64 a0) (.int .u64 a1) 41).alloc (.cells #[(.int .u64 0), (.int .u64 0)] 41)
  have s0 := V2.new (w.alloc (.cells #[(.int .u64 a0), (.int .u64 a1)] 41)) (.int .u64 0) (.int .u64 0) 41
  simp only [World.size_alloc] at s0
  have hb00 : Below w.heap.size w ((w.alloc (.cells #[(.int .u64 a0), (.int .u64 a1)] 41)).alloc (.cells #[(.int .u64 0), (.int .u64 0)] 41)) := by repeat (first | exact Below.refl _ _ | with_reducible assumption | (refine bl_alloc ?_ (Nat.le_refl _) _))
  have hsz : w.heap.size + 2 ≤ ((w.alloc (.cells #[(.int .u64 a0), (.int .u64 a1)] 41)).alloc (.cells #[(.int .u64 0), (.int .u64 0)] 41)).heap.size := by simp only [World.size_alloc]; omega
  generalize ((w.alloc (.cells #[(.int .u64 a0), (.int .u64 a1)] 41)).alloc (.cells #[(.int .u64 0), (.int .u64 0)] 41)) = w1 at q0 s0 hb00 hsz ⊢
  obtain ⟨q00, q01, q02, q03, q04⟩ := V2.mk q0.c0 q0.c1 q0.f0 q0.f1 q0.lt
  obtain ⟨s00, s01, s02, s03, s04⟩ := V2.mk s0.c0 s0.c1 s0.f0 s0.f1 s0.lt
  rcases hz with ⟨hx, rfl⟩ | ⟨hx, rfl⟩
  · have HX := Lib.hid hx
    clear hx
    go_wp2_with (go_at_call 125; refine (HO.out _).mono ?_; rintro e w3 ⟨rfl, hb3⟩; replace hb00 := bl_call hb00 (Nat.le_refl _) hb3; replace q0 := q0.call hb3; replace s0 := s0.call hb3; clear q00 q01 q02 q03 q04 s00 s01 s02 s03 s04; obtain ⟨s00, s01, s02, s03, s04⟩ := V2.mk s0.c0 s0.c1 s0.f0 s0.f1 s0.lt)
    refine bodyPost_ret (results_v2_tmp (b := w.heap.size + 1) (u := .int .u64 0) (v := .int .u64 0) ?_ rfl rfl) rfl ?_
    · first | exact V2.set s0 _ _ | exact s0
    · exact .inl ⟨HX.out, rfl, by repeat (first | exact Below.refl _ _ | with_reducible assumption | (refine bl_alloc ?_ (Nat.le_refl _) _) | (refine bl_set ?_ (by dsimp only; omega) _) | (refine Below.drew ?_) | (refine bl_drewN ?_ _) | (refine bl_call ?_ (Nat.le_refl _) (by assumption)))⟩
  · have HX := Lib.hid hx
    clear hx
    go_upto_region 3 with (first
      | (go_at_call 125; refine (HO.out _).mono ?_; rintro e w3 ⟨rfl, hb3⟩; replace hb00 := bl_call hb00 (Nat.le_refl _) hb3; replace q0 := q0.call hb3; replace s0 := s0.call hb3; clear q00 q01 q02 q03 q04 s00 s01 s02 s03 s04; clear hb3; obtain ⟨q00, q01, q02, q03, q04⟩ := V2.mk q0.c0 q0.c1 q0.f0 q0.f1 q0.lt; obtain ⟨s00, s01, s02, s03, s04⟩ := V2.mk s0.c0 s0.c1 s0.f0 s0.f1 s0.lt))
    refine region_B (n := 5) (m := 7) (f := 5) (by kernel_rfl) (by kernel_rfl) rfl ?_
    refine WpH.takeD 0 (some 9) (v := ?_) rfl rfl (by kernel_rfl) (fun _ _ _ h => h) (.val rfl (fun wz hwz => ?_)) ?_
    rotate_left
    · (obtain ⟨hcz, hfz⟩ := bcell hwz; go_simp; try (with_reducible rfl))
    (simp only [Act.put]); (try simp only [List.setIfInBounds_toArray]); (try simp only [List.set_cons_succ]); (try simp only [List.set_cons_zero])
    refine WpH.takeD 1 (some 10) rfl rfl (by kernel_rfl) (fun _ _ _ h => h) (.call rfl (fun wz hwz => wide_P wz) (fun wz hwz => ?_)) ?_
    · go_simp; try (with_reducible rfl)
    (simp only [Act.put]); (try simp only [List.setIfInBounds_toArray]); (try simp only [List.set_cons_succ]); (try simp only [List.set_cons_zero])
    refine WpH.takeD 2 (some 11) (v := ?_) rfl rfl (by kernel_rfl) (fun _ _ _ h => h) (.val rfl (fun wz hwz => ?_)) ?_
    rotate_left
    · go_simp; try (with_reducible rfl)
    (simp only [Act.put]); (try simp only [List.setIfInBounds_toArray]); (try simp only [List.set_cons_succ]); (try simp only [List.set_cons_zero])
    refine WpH.takeD 3 (some 12) rfl rfl (by kernel_rfl) (fun _ _ _ h => h) (.call rfl (fun wz hwz => HT.out wz) (fun wz hwz => ?_)) ?_
    · go_simp; try (with_reducible rfl)
    (simp only [Act.put]); (try simp only [List.setIfInBounds_toArray]); (try simp only [List.set_cons_succ]); (try simp only [List.set_cons_zero])
    refine WpH.takeD 4 (some 13) rfl rfl (by kernel_rfl) (fun _ _ _ h => h) (.call rfl (fun wz hwz => HP.out wz) (fun wz hwz => ?_)) ?_
    · go_simp; try (with_reducible rfl)
    (simp only [Act.put]); (try simp only [List.setIfInBounds_toArray]); (try simp only [List.set_cons_succ]); (try simp only [List.set_cons_zero])
    refine WpH.doneB (by kernel_rfl) (fun w4 hw4 => ?_)
    (try simp only [List.drop_succ_cons]); (try simp only [List.drop_zero]); (try simp only [Nat.reduceSub]); (try simp only [List.take_succ_cons]); (try simp only [List.take_zero])
    clear q00 q01 q02 q03 q04 s00 s01 s02 s03 s04
    replace hb00 := bl_call hb00 (Nat.le_refl _) hw4
    replace q0 := q0.call hw4
    replace s0 := s0.call hw4
    obtain ⟨s00, s01, s02, s03, s04⟩ := V2.mk s0.c0 s0.c1 s0.f0 s0.f1 s0.lt
    go_wp2_with fail
    refine bodyPost_ret (results_v2_tmp (b := w.heap.size + 1) (u := .int .u64 (lo y)) (v := .int .u64 (hi y)) ?_ rfl rfl) rfl ?_
    · exact V2.set s0 _ _
    · exact .inr ⟨HX.out, rfl, by repeat (first | exact Below.refl _ _ | with_reducible assumption | (refine bl_alloc ?_ (Nat.le_refl _) _) | (refine bl_set ?_ (by dsimp only; omega) _) | (refine Below.drew ?_) | (refine bl_drewN ?_ _) | (refine bl_call ?_ (Nat.le_refl _) (by assumption)))⟩

theorem kpw_ipow {f : Nat} (x : Fin (Pm f)) : ∀ n, kpw x n = kI (Pm f) (ipow (x.val : Int) n)
  | 0 => kI_one.symm
  | n + 1 => by rw [kpw, kpw_ipow x n, ipow, kI_mul, kI_ofVal]

/-- an inverse comes back, or an error for 0 -/
def RetInv {f : Nat} (x : Fin (Pm f)) (w : World) (e : Ending) (w' : World) : Prop :=
  (x = 0 ∧ e = .returned (.tuple #[.agg #[.int .u64 0, .int .u64 0], .int .i64 8]) ∧ Below w.heap.size w w') ∨ (x ≠ 0 ∧ e = .returned (.tuple #[vK (kinv x), .int .i64 0]) ∧ Below w.heap.size w w')

set_option maxHeartbeats 2000000 in
theorem field_Inv {f : Nat} (hf : IsF f) (x : Fin (Pm f)) (w : World) :
    Calls Try.prog 110 #[.int .u8 f, vK x] w (RetInv x w) := by
  have hb00 : Below w.heap.size w w := Below.refl _ _
  rcases hf.or with rfl | rfl
  · have hp : ((Pm 1 : Nat) : Int) = 18446744069414584321 := rfl
    have hxv : ((x.val : Nat) : Int) < 18446744069414584321 := by rw [← hp]; exact Int.ofNat_lt.2 x.isLt
    have hlx := vK_of (x := x) (z0 := ((x.val : Nat) : Int)) (z1 := 0) (by omega) (by omega) (by omega)
    have hki := vK_of (x := kinv x) (z0 := ipow (x.val : Int) 18446744069414584319 % 18446744069414584321) (z1 := 0) (by
      unfold kinv
      rw [kpw_ipow, val_kI, hp, show Pm 1 - 2 = 18446744069414584319 from rfl, Int.mul_zero, Int.add_zero]) (Int.emod_nonneg _ (by omega)) (by have := Int.emod_lt_of_pos (ipow (x.val : Int) 18446744069414584319) (show (0 : Int) < 18446744069414584321 by omega); omega)
    have hx0 : x = 0 ↔ ((x.val : Nat) : Int) % 18446744069414584321 = 0 := by
      rw [Int.emod_eq_of_lt (by omega) hxv]
      constructor
      · rintro rfl
        rfl
      · intro h
        exact Fin.ext (by show x.val = 0; omega)
    have HG := Lib.hid (fun wz => gold_Inv ((x.val : Nat) : Int) wz (by omega) (by omega))
    have HR : Hid ((x ≠ 0 ∧ Value.tuple #[.agg #[.int .u64 (ipow (x.val : Int) 18446744069414584319 % 18446744069414584321), .int .u64 0], .int .i64 0] = .tuple #[vK (kinv x), .int .i64 0]) ∨ x = 0) := by
      by_cases h : x = 0
      · exact .inr h
      · exact .inl ⟨h, by show _ = Value.tuple #[.agg #[.int .u64 (lo (kinv x)), .int .u64 (hi (kinv x))], .int .i64 0]; rw [hki.1, hki.2]⟩
    show Calls Try.prog 110 #[.int .u8 1, .agg #[.int .u64 (lo x), .int .u64 (hi x)]] w (RetInv x w)
    rw [hlx.1, hlx.2]
    have HX0 := Lib.hid hx0
    clear hx0 hki hlx hp
    generalize ipow ((x.val : Nat) : Int) 18446744069414584319 % 18446744069414584321 = r at *
    generalize ((x.val : Nat) : Int) = a at *
    go_enter Try.func110, Try.ntmps110
    go_upto_region 1 with fail
    clear hb00
    have q0 := (V2.new w (.int .u64 a) (.int .u64 0) 41).alloc (.cells #[(.int .u64 0), (.int .u64 0)] 41)
    have s0 := V2.new (w.alloc (.cells #[(.int .u64 a), (.int .u64 0)] 41)) (.int .u64 0) (.int .u64 0) 41
    simp only [World.size_alloc] at s0
    have hb00 : Below w.heap.size w ((w.alloc (.cells #[(.int .u64 a), (.int .u64 0)] 41)).alloc (.cells #[(.int .u64 0), (.int .u64 0)] 41)) := by repeat (first | exact Below.refl _ _ | with_reducible assumption | (refine bl_alloc ?_ (Nat.le_refl _) _))
    have hsz : w.heap.size + 2 ≤ ((w.alloc (.cells #[(.int .u64 a), (.int .u64 0)] 41)).alloc (.cells #[(.int .u64 0), (.int .u64 0)] 41)).heap.size := by simp only [World.size_alloc]; omega
    generalize ((w.alloc (.cells #[(.int .u64 a), (.int .u64 0)] 41)).alloc (.cells #[(.int .u64 0), (.int .u64 0)] 41)) = w1 at q0 s0 hb00 hsz ⊢
    obtain ⟨q00, q01, q02, q03, q04⟩ := V2.mk q0.c0 q0.c1 q0.f0 q0.f1 q0.lt
    obtain ⟨s00, s01, s02, s03, s04⟩ := V2.mk s0.c0 s0.c1 s0.f0 s0.f1 s0.lt
    go_wp2_with fail
    refine (HG.out _).mono ?_
    rintro e w3 (⟨h9, rfl, rfl⟩ | ⟨h9, rfl, rfl⟩)
    · have H9 := Lib.hid h9
      clear h9
      go_wp2_with fail
      refine bodyPost_ret (results_v2_tmp (b := w.heap.size + 1) (u := .int .u64 0) (v := .int .u64 0) ?_ rfl rfl) rfl ?_
      · first | exact V2.set s0 _ _ | exact s0
      · exact .inl ⟨HX0.out.2 H9.out, rfl, by repeat (first | exact Below.refl _ _ | with_reducible assumption | (refine bl_alloc ?_ (Nat.le_refl _) _) | (refine bl_set ?_ (by dsimp only; omega) _) | (refine Below.drew ?_) | (refine bl_drewN ?_ _) | (refine bl_call ?_ (Nat.le_refl _) (by assumption)))⟩
    · have H9 := Lib.hid h9
      clear h9
      go_wp2_with fail
      refine bodyPost_ret (results_v2_tmp (b := w.heap.size + 1) (u := .int .u64 r) (v := .int .u64 0) ?_ rfl rfl) rfl ?_
      · first | exact V2.set s0 _ _ | exact s0
      · rcases HR.out with ⟨h1, h2⟩ | h1
        · exact .inr ⟨h1, congrArg _ h2, by repeat (first | exact Below.refl _ _ | with_reducible assumption | (refine bl_alloc ?_ (Nat.le_refl _) _) | (refine bl_set ?_ (by dsimp only; omega) _) | (refine Below.drew ?_) | (refine bl_drewN ?_ _) | (refine bl_call ?_ (Nat.le_refl _) (by assumption)))⟩
        · exact absurd (HX0.out.1 h1) H9.out
  · have HI := Lib.hid (fun wz => wide_Inv x wz)
    clear hb00
    go_enter Try.func110, Try.ntmps110
    go_upto_region 1 with fail
    have q0 := (V2.new w (.int .u64 (lo x)) (.int .u64 (hi x)) 41).alloc (.cells #[(.int .u64 0), (.int .u64 0)] 41)
    have s0 := V2.new (w.alloc (.cells #[(.int .u64 (lo x)), (.int .u64 (hi x))] 41)) (.int .u64 0) (.int .u64 0) 41
    simp only [World.size_alloc] at s0
    have hb00 : Below w.heap.size w ((w.alloc (.cells #[(.int .u64 (lo x)), (.int .u64 (hi x))] 41)).alloc (.cells #[(.int .u64 0), (.int .u64 0)] 41)) := by repeat (first | exact Below.refl _ _ | with_reducible assumption | (refine bl_alloc ?_ (Nat.le_refl _) _))
    have hsz : w.heap.size + 2 ≤ ((w.alloc (.cells #[(.int .u64 (lo x)), (.int .u64 (hi x))] 41)).alloc (.cells #[(.int .u64 0), (.int .u64 0)] 41)).heap.size := by simp only [World.size_alloc]; omega
    generalize ((w.alloc (.cells #[(.int .u64 (lo x)), (.int .u64 (hi x))] 41)).alloc (.cells #[(.int .u64 0), (.int .u64 0)] 41)) = w1 at q0 s0 hb00 hsz ⊢
    obtain ⟨q00, q01, q02, q03, q04⟩ := V2.mk q0.c0 q0.c1 q0.f0 q0.f1 q0.lt
    obtain ⟨s00, s01, s02, s03, s04⟩ := V2.mk s0.c0 s0.c1 s0.f0 s0.f1 s0.lt
    go_wp2_with fail
    refine (HI.out _).mono ?_
    rintro e w3 (⟨h9, rfl, hb3⟩ | ⟨h9, rfl, hb3⟩)
    · have H9 := Lib.hid h9
      clear h9
      clear q00 q01 q02 q03 q04 s00 s01 s02 s03 s04
      replace hb00 := bl_call hb00 (Nat.le_refl _) hb3
      replace q0 := q0.call hb3
      replace s0 := s0.call hb3
      clear hb3
      obtain ⟨s00, s01, s02, s03, s04⟩ := V2.mk s0.c0 s0.c1 s0.f0 s0.f1 s0.lt
      go_wp2_with fail
      refine bodyPost_ret (results_v2_tmp (b := w.heap.size + 1) (u := .int .u64 0) (v := .int .u64 0) ?_ rfl rfl) rfl ?_
      · first | exact V2.set s0 _ _ | exact s0
      · exact .inl ⟨H9.out, rfl, by repeat (first | exact Below.refl _ _ | with_reducible assumption | (refine bl_alloc ?_ (Nat.le_refl _) _) | (refine bl_set ?_ (by dsimp only; omega) _) | (refine Below.drew ?_) | (refine bl_drewN ?_ _) | (refine bl_call ?_ (Nat.le_refl _) (by assumption)))⟩
    · have H9 := Lib.hid h9
      clear h9
      clear q00 q01 q02 q03 q04 s00 s01 s02 s03 s04
      replace hb00 := bl_call hb00 (Nat.le_refl _) hb3
      replace q0 := q0.call hb3
      replace s0 := s0.call hb3
      clear hb3
      obtain ⟨s00, s01, s02, s03, s04⟩ := V2.mk s0.c0 s0.c1 s0.f0 s0.f1 s0.lt
      go_wp2_with fail
      refine bodyPost_ret (results_v2_tmp (b := w.heap.size + 1) (u := .int .u64 (lo (kinv x))) (v := .int .u64 (hi (kinv x))) ?_ rfl rfl) rfl ?_
      · exact V2.set s0 _ _
      · exact .inr ⟨H9.out, rfl, by repeat (first | exact Below.refl _ _ | with_reducible assumption | (refine bl_alloc ?_ (Nat.le_refl _) _) | (refine bl_set ?_ (by dsimp only; omega) _) | (refine Below.drew ?_) | (refine bl_drewN ?_ _) | (refine bl_call ?_ (Nat.le_refl _) (by assumption)))⟩

end Go.Proofs.Ytiphahbeedeebaa

namespace Go.Proofs.Ytiphahbeedeebaa
open Go.RowKit Fm
set_option linter.unusedVariables false
set_option maxRecDepth 100000

theorem awake_list : (encMulti 2 [1, 0, 1]).map (nK 1) = ([1, 0, 1, 1, 1] : KL 1) := by decide +kernel
theorem awake_cells : esK ([1, 0, 1, 1, 1] : KL 1) = [(1, 0), (0, 0), (1, 0), (1, 0), (1, 0)] := by decide +kernel
theorem awake_ok : okMulti 2 [1, 0, 1] := ⟨fun x hx => by simp only [List.mem_cons, List.not_mem_nil, or_false] at hx; omega, by decide⟩
theorem awake_okc : (CK.multi 3 2 2).ok := ⟨⟨by omega, by omega⟩, ⟨by omega, by omega⟩, ⟨by omega, by omega⟩⟩
theorem awake_vec : okVec (.multi 3 2 2) ([1, 0, 1, 1, 1] : KL 1) := by
  refine ⟨?_, ?_⟩
  · intro x hx
    simp only [List.mem_cons, List.not_mem_nil, or_false] at hx
    rcases hx with h | h | h | h | h
    · exact .inr h
    · exact .inl h
    · exact .inr h
    · exact .inr h
    · exact .inr h
  · show ksum (([1, 0, 1, 1, 1] : KL 1).take 3) + nK 1 (offN 2) = knum (([1, 0, 1, 1, 1] : KL 1).drop 3)
    decide +kernel

set_option maxHeartbeats 4000000 in
theorem law10_Awake (w : World) : Calls Try.prog 35 #[] w fun e w' => e = .returned (.bool true) ∧ Below w.heap.size w w' := by
  have heq := eql_elem
  have hb00 : Below w.heap.size w w := Below.refl _ _
  have HENC := Lib.hid (circuit_Encode_multi isF1 3 2 2 awake_okc (by decide +kernel))
  have HVAL := Lib.hid (circuit_Valid isF1 (.multi 3 2 2) awake_okc (by decide +kernel))
  go_enter Try.func35, Try.ntmps35
  go_upto_region 2 with fail
  have hx := Vs.new w [.int .u8 5, .int .u8 1, .int .i64 0, .int .i64 3, .int .i64 2, .int .i64 2] #[.int .u8 5, .int .u8 1, .int .i64 0, .int .i64 3, .int .i64 2, .int .i64 2] 60 rfl
  have hbA : Below w.heap.size w (w.alloc (.cells #[.int .u8 5, .int .u8 1, .int .i64 0, .int .i64 3, .int .i64 2, .int .i64 2] 60)) := by repeat (first | exact Below.refl _ _ | with_reducible assumption | (refine bl_alloc ?_ (Nat.le_refl _) _))
  replace hb00 := bl_call hb00 (Nat.le_refl _) hbA
  clear hbA
  generalize w.alloc (.cells #[.int .u8 5, .int .u8 1, .int .i64 0, .int .i64 3, .int .i64 2, .int .i64 2] 60) = w1 at hb00 hx ⊢
  obtain ⟨⟨x0, x1, x2, x3, x4, x5⟩, ⟨x6, x7, x8, x9, x10, x11⟩, x12⟩ := hx.get6
  have hSU : SlU (w1.alloc (.cells #[.int .u64 1, .int .u64 0, .int .u64 1] 39)) (w1.alloc (.cells #[.int .u64 1, .int .u64 0, .int .u64 1] 39)).heap.size (.slice (some ⟨w1.heap.size, 0, none⟩) 3 3) (natsI [1, 0, 1]) := by
    have hV := Vs.new w1 [.int .u64 1, .int .u64 0, .int .u64 1] #[.int .u64 1, .int .u64 0, .int .u64 1] 39 rfl
    refine ⟨⟨some ⟨w1.heap.size, 0, none⟩, 3, rfl, Nat.le_refl _, by omega, fun _ => ⟨w1.heap.size, 0, rfl, hV.lt, fun i e hi => ?_⟩⟩, ?_⟩
    · rw [Nat.zero_add]
      refine hV.cell i _ ?_
      match i, hi with
      | 0, hi => obtain rfl : (1 : Int) = e := by simpa [natsI] using hi
                 rfl
      | 1, hi => obtain rfl : (0 : Int) = e := by simpa [natsI] using hi
                 rfl
      | 2, hi => obtain rfl : (1 : Int) = e := by simpa [natsI] using hi
                 rfl
      | i + 3, hi => simp [natsI] at hi
    · intro e he
      simp [natsI] at he
      rcases he with rfl | rfl | rfl <;> exact ⟨by omega, by omega⟩
  have HE := Lib.hid (HENC.out _ [1, 0, 1] _ hSU rfl)
  have hbA : Below w1.heap.size w1 (w1.alloc (.cells #[.int .u64 1, .int .u64 0, .int .u64 1] 39)) := by repeat (first | exact Below.refl _ _ | with_reducible assumption | (refine bl_alloc ?_ (Nat.le_refl _) _) | (refine bl_set ?_ (by dsimp only; omega) _) | (refine Below.drew ?_) | (refine bl_drewN ?_ _) | (refine bl_call ?_ (Nat.le_refl _) (by assumption)))
  clear hSU
  go_wp2_with fail
  refine HE.out.mono ?_
  rintro e w2 (⟨_, v, rfl, hown, hb2⟩ | ⟨hno, _⟩)
  rotate_left
  · exact absurd awake_ok hno
  rw [awake_list] at hown
  obtain ⟨g, cap, rfl⟩ := own_slice (n := 4) hown
  replace hb00 := bl_call hb00 (Nat.le_refl _) hbA
  replace hx := hx.call hbA
  replace hb00 := bl_call hb00 (Nat.le_refl _) hb2
  replace hx := hx.call hb2
  clear HE hbA hb2
  clear x0 x1 x2 x3 x4 x5 x6 x7 x8 x9 x10 x11 x12
  have hsl : SlK w2 w2.heap.size (.slice (some ⟨g, 0, none⟩) 5 cap) ([1, 0, 1, 1, 1] : KL 1) := own_sl rfl hown
  rw [awake_cells] at hown
  have c4 := hown.cellAt 4 (by omega)
  have c5 := hown.cellAt 5 (by omega)
  have c6 := hown.cellAt 6 (by omega)
  have c7 := hown.cellAt 7 (by omega)
  have c8 := hown.cellAt 8 (by omega)
  have c9 := hown.cellAt 9 (by omega)
  change _ = some (Value.int .u64 1) at c4
  change _ = some (Value.int .u64 0) at c5
  change _ = some (Value.int .u64 1) at c6
  change _ = some (Value.int .u64 0) at c7
  change _ = some (Value.int .u64 1) at c8
  change _ = some (Value.int .u64 0) at c9
  have HV := Lib.hid (HVAL.out _ _ w2 hsl rfl)
  clear hsl hown HVAL HENC
  obtain ⟨⟨x0, x1, x2, x3, x4, x5⟩, ⟨x6, x7, x8, x9, x10, x11⟩, x12⟩ := hx.get6
  go_wp2_with fail
  refine HV.out.mono ?_
  rintro e w3 ⟨⟨b, rfl, hb⟩, hb3⟩
  obtain rfl : b = true := hb.2 awake_vec
  replace hb00 := bl_call hb00 (Nat.le_refl _) hb3
  replace hx := hx.call hb3
  go_wp2_with fail
  go_ret
  exact ⟨rfl, hb00⟩

end Go.Proofs.Ytiphahbeedeebaa
