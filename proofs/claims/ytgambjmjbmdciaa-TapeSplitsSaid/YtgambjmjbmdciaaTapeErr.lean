/-
  WALKS: tape.Split at whatever elements, and at no field.
-/
import Derived.Test.YtgambjmjbmdciaaRefIn
namespace Go.Proofs.Ytgambjmjbmdciaa
open Go.RowKit Fm
set_option linter.unusedVariables false
set_option maxRecDepth 100000

/-! ### all of a field -/
def allB (m : Int) (xs : List E) : Bool := xs.all fun e => decide (e.1 + 18446744073709551616 * e.2 < m)
theorem allB_in {m : Int} {xs : List E} (h : allB m xs = true) : AllIn m xs := by
  intro e he
  unfold allB at h
  rw [List.all_eq_true] at h
  simpa using h e he
theorem allB_append (m : Int) (xs ys : List E) : allB m (xs ++ ys) = (allB m xs && allB m ys) := by
  unfold allB
  rw [List.all_append]
theorem allB_no {m : Int} {xs : List E} {e : E} (he : e ∈ xs) (h : ¬ e.1 + 18446744073709551616 * e.2 < m) : allB m xs = false := by
  unfold allB
  rw [List.all_eq_false]
  exact ⟨e, he, by simpa using h⟩
theorem allB_take {m : Int} {xs : List E} {q : Nat} {e : E} (he : xs[q]? = some e) : allB m (xs.take (q + 1)) = (allB m (xs.take q) && decide (e.1 + 18446744073709551616 * e.2 < m)) := by
  rw [List.take_add_one, he, allB_append]
  simp [allB]

/-- which slices are done -/
def pre (k : Nat) (xs ys : List E) : List E := (if 1 ≤ k then xs else []) ++ (if 2 ≤ k then ys else [])

/-- Split comes back: with both shares, or with none and the error c -/
def RetSplit (c : Int) (w : World) (e : Ending) (w' : World) : Prop :=
  ∃ (a1 : Option Addr) (l1 c1 : Nat) (a2 : Option Addr) (l2 c2 : Nat), e = .returned (.tuple #[.agg #[.slice a1 l1 c1, .slice a2 l2 c2], .int .i64 c]) ∧ (c ≠ 0 → l1 = 0 ∧ l2 = 0) ∧ Below w.heap.size w w'

set_option maxHeartbeats 4000000 in
theorem tape_Split_err (f m : Int) (hf : FM f m) (va vb : Value) (xs ys : List E) (w : World) (hx : SlE w w.heap.size va xs) (hy : SlE w w.heap.size vb ys) (c : Int) (hc0 : c ≠ 0)
    (H : (allB m (xs ++ ys) = false ∧ c = 7) ∨ (allB m (xs ++ ys) = true ∧ xs.length ≠ ys.length ∧ c = 9)) :
    Calls Try.prog 25 #[.int .u8 f, va, vb] w (RetSplit c w) := by
  have hx0 := hx
  have hy0 := hy
  obtain ⟨⟨A, cx, rfl, hc, hcm, hA⟩, hokx⟩ := hx
  obtain ⟨⟨A', cy, rfl, hc', hcm', hA'⟩, hoky⟩ := hy
  have hbf : (f == 1 || f == 2) = true := by rcases hf.or with ⟨rfl, _⟩ | ⟨rfl, _⟩ <;> rfl
  have HH := Lib.hid H
  clear H
  go_enter Try.func25, Try.ntmps25
  go_wp2_with (go_at_call 101; refine (field_Valid f _).mono ?_; rintro e w1 ⟨rfl, rfl⟩)
  go_loopw [22] (fun i wr => ∃ k : Nat, k ≤ 2 ∧ i = .int .i64 k ∧ Hid (allB m (pre k xs ys) = true) ∧ V2 wr w.heap.size (.slice none 0 0) (.slice none 0 0) ∧ V2 wr (w.heap.size + 1) (.slice A xs.length cx) (.slice A' ys.length cy) ∧ Below w.heap.size w wr) (fun i _ => 2 - (intOf i).toNat)
  case atStart =>
    have s0 := V2.new (w.alloc (.cells #[.slice none 0 0, .slice none 0 0] 28)) (.slice A xs.length cx) (.slice A' ys.length cy) 22
    simp only [World.size_alloc] at s0
    exact ⟨0, by omega, rfl, rfl, (V2.new w _ _ _).alloc _, s0, by repeat (first | exact Below.refl _ _ | with_reducible assumption | (refine bl_alloc ?_ (Nat.le_refl _) _) | (refine bl_set ?_ (by dsimp only; omega) _) | (refine Below.drew ?_) | (refine bl_drewN ?_ _) | (refine bl_call ?_ (Nat.le_refl _) (by assumption)))⟩
  case round =>
    obtain ⟨k, hk, rfl, HP, hv, hs, hbw⟩ := hrel
    by_cases hlt : k < 2
    · have hL : ∃ (L : List E) (D : Option Addr) (cc : Nat), wr.cell? ⟨w.heap.size + 1, k, none⟩ = some (.slice D L.length cc) ∧ L.length ≤ cc ∧ cc ≤ 9223372036854775807 ∧ (0 < L.length → ∃ b o, D = some ⟨b, o, none⟩ ∧ b < w.heap.size ∧ RowE w b o L) ∧ Hid (pre (k + 1) xs ys = pre k xs ys ++ L ∧ ∃ R, xs ++ ys = pre k xs ys ++ L ++ R) ∧ (∀ e, e ∈ L → okE e) := by
        have h2 : k = 0 ∨ k = 1 := by omega
        rcases h2 with rfl | rfl
        · exact ⟨xs, A, cx, hs.c0, hc, hcm, hA, ⟨by simp [pre], ys, by simp [pre]⟩, hokx⟩
        · exact ⟨ys, A', cy, hs.c1, hc', hcm', hA', ⟨by simp [pre], [], by simp [pre]⟩, hoky⟩
      obtain ⟨L, D, cc, hcell, hLc, hLm, hLA, HLI, hLok⟩ := hL
      have hd2 : decide ((k : Int) < 2) = true := by simp; omega
      go_wp2
      obtain ⟨wo, hwo⟩ : ∃ wo : World, wo = wr := ⟨_, rfl⟩
      subst hwo
      go_loopw [28] (fun j wi => ∃ q : Nat, q ≤ L.length ∧ j = .int .i64 q ∧ Hid (allB m (L.take q) = true) ∧ V2 wi w.heap.size (.slice none 0 0) (.slice none 0 0) ∧ V2 wi (w.heap.size + 1) (.slice A xs.length cx) (.slice A' ys.length cy) ∧ Below w.heap.size w wi) (fun j _ => L.length - (intOf j).toNat)
      case atStart => exact ⟨0, Nat.zero_le _, rfl, rfl, hv, hs, hbw⟩
      case round =>
        obtain ⟨q, hq, rfl, HQ, hv', hs', hbw'⟩ := hrel
        by_cases hlq : q < L.length
        · obtain ⟨b, o, rfl, hB, hr⟩ := hLA (by omega)
          obtain ⟨⟨x0, x1⟩, he⟩ : ∃ e, L[q]? = some e := ⟨_, List.getElem?_eq_getElem hlq⟩
          obtain ⟨hx0, hx1, hx2, hx3⟩ := hLok _ (List.mem_of_getElem? he)
          obtain ⟨c0, c1⟩ := (hr.below hbw' hB) q _ he
          dsimp only at hx0 hx1 hx2 hx3 c0 c1
          have HE := Lib.hid he
          clear hLA hr he
          by_cases hin : x0 + 18446744073709551616 * x1 < m
          · have hd : decide (x0 + 18446744073709551616 * x1 < m) = true := by simp; omega
            have HD := Lib.hid hd
            clear hin
            go_wp2_with (go_at_call 102; refine (field_In f m _ _ _ hf (by omega) (by omega) (by omega) (by omega)).mono ?_; rintro e w6 ⟨rfl, hb6⟩)
            have hv6 := (hv'.alloc (.cells #[.int .u64 x0, .int .u64 x1] 41)).call hb6
            have hs6 := (hs'.alloc (.cells #[.int .u64 x0, .int .u64 x1] 41)).call hb6
            have hbw6 : Below w.heap.size w w6 := by repeat (first | exact Below.refl _ _ | with_reducible assumption | (refine bl_alloc ?_ (Nat.le_refl _) _) | (refine bl_set ?_ (by dsimp only; omega) _) | (refine Below.drew ?_) | (refine bl_drewN ?_ _) | (refine bl_call ?_ (Nat.le_refl _) (by assumption)))
            go_roundw
            case rel =>
              refine ⟨q + 1, by omega, by go_num, ?_, hv6, hs6, hbw6⟩
              show _ = _
              rw [allB_take HE.out, HQ.out]
              exact HD.out
            case measure => simp [intOf]; omega
          · have hd : decide (x0 + 18446744073709551616 * x1 < m) = false := by simp; omega
            have hc7 : c = 7 := by
              rcases HH.out with ⟨_, h⟩ | ⟨h, _⟩
              · exact h
              · obtain ⟨_, R, hR⟩ := HLI.out
                rw [hR, allB_append, allB_append, allB_no (List.mem_of_getElem? HE.out) hin] at h
                simp at h
            subst hc7
            clear hin
            go_wp2_with (go_at_call 102; refine (field_In f m _ _ _ hf (by omega) (by omega) (by omega) (by omega)).mono ?_; rintro e w6 ⟨rfl, hb6⟩; have hv6 := (hv'.alloc (.cells #[.int .u64 x0, .int .u64 x1] 41)).call hb6; obtain ⟨v60, v61, v62, v63, v64⟩ := hv6)
            refine bodyPost_ret (results_shares (b := w.heap.size) (u := .slice none 0 0) (v := .slice none 0 0) ?_ rfl rfl) rfl ?_
            · exact V2.set ⟨v60, v61, v62, v63, v64⟩ _ _
            · exact ⟨_, _, _, _, _, _, rfl, fun _ => ⟨rfl, rfl⟩, by repeat (first | exact Below.refl _ _ | with_reducible assumption | (refine bl_alloc ?_ (Nat.le_refl _) _) | (refine bl_set ?_ (by dsimp only; omega) _) | (refine Below.drew ?_) | (refine bl_drewN ?_ _) | (refine bl_call ?_ (Nat.le_refl _) (by assumption)))⟩
        · obtain rfl : q = L.length := by omega
          go_wp2
          go_roundw
          case rel =>
            refine ⟨k + 1, by omega, by go_num, ?_, hv', hs', hbw'⟩
            show _ = _
            have h := HQ.out
            rw [List.take_of_length_le (Nat.le_refl _)] at h
            rw [HLI.out.1, allB_append, HP.out, h]
            rfl
          case measure => simp [intOf]; omega
    · obtain rfl : k = 2 := by omega
      obtain ⟨hne, rfl⟩ : xs.length ≠ ys.length ∧ c = 9 := by
        rcases HH.out with ⟨h, _⟩ | ⟨_, h⟩
        · have := HP.out
          rw [show pre 2 xs ys = xs ++ ys from by simp [pre], h] at this
          cases this
        · exact h
      have HNE := Lib.hid hne
      clear hne
      have hxr := (hx0.below hbw).mono hbw.size
      have hyr := (hy0.below hbw).mono hbw.size
      go_wp2_with fail
      refine (field_SubVec_size f _ _ xs ys _ hxr hyr HNE.out).mono ?_
      rintro e w1 ⟨rfl, hb1⟩
      obtain ⟨v60, v61, v62, v63, v64⟩ := hv.call hb1
      go_wp2
      refine bodyPost_ret (results_shares (b := w.heap.size) (u := .slice none 0 0) (v := .slice none 0 0) ?_ rfl rfl) rfl ?_
      · exact V2.set ⟨v60, v61, v62, v63, v64⟩ _ _
      · exact ⟨_, _, _, _, _, _, rfl, fun _ => ⟨rfl, rfl⟩, by repeat (first | exact Below.refl _ _ | with_reducible assumption | (refine bl_alloc ?_ (Nat.le_refl _) _) | (refine bl_set ?_ (by dsimp only; omega) _) | (refine Below.drew ?_) | (refine bl_drewN ?_ _) | (refine bl_call ?_ (Nat.le_refl _) (by assumption)))⟩

theorem tape_Split_any (f m : Int) (hf : FM f m) (va vb : Value) (xs ys : List E) (w : World) (hx : SlE w w.heap.size va xs) (hy : SlE w w.heap.size vb ys) (hn : xs.length ≤ 1099511627776) (c : Int)
    (H : (allB m (xs ++ ys) = false ∧ c = 7) ∨ (allB m (xs ++ ys) = true ∧ xs.length ≠ ys.length ∧ c = 9) ∨ (allB m (xs ++ ys) = true ∧ xs.length = ys.length ∧ c = 0)) :
    Calls Try.prog 25 #[.int .u8 f, va, vb] w (RetSplit c w) := by
  rcases H with h | h | ⟨h1, h2, rfl⟩
  · exact tape_Split_err f m hf va vb xs ys w hx hy c (by omega) (.inl h)
  · exact tape_Split_err f m hf va vb xs ys w hx hy c (by omega) (.inr h)
  · rw [allB_append, Bool.and_eq_true] at h1
    refine (tape_Split f m hf va vb xs ys w hx hy h2 hn (allB_in h1.1) (allB_in h1.2)).mono ?_
    rintro e w1 ⟨u, v, rfl, hu, hv, hb⟩
    obtain ⟨⟨a1, c1, rfl, _⟩, _⟩ := hu
    obtain ⟨⟨a2, c2, rfl, _⟩, _⟩ := hv
    exact ⟨_, _, _, _, _, _, rfl, fun h => (h rfl).elim, hb⟩

set_option maxHeartbeats 1000000 in
theorem tape_Split_kind (f : Int) (h3 : 3 ≤ f) (va vb : Value) (w : World) (A : Option Addr) (l cx : Nat) (hx : va = .slice A l cx) (A' : Option Addr) (l' cy : Nat) (hy : vb = .slice A' l' cy) :
    Calls Try.prog 25 #[.int .u8 f, va, vb] w (RetSplit 10 w) := by
  subst hx
  subst hy
  have hbf : (f == 1 || f == 2) = false := by rw [Bool.or_eq_false_iff, beq_eq_false_iff_ne, beq_eq_false_iff_ne]; omega
  obtain ⟨v60, v61, v62, v63, v64⟩ := V2.new w (.slice none 0 0) (.slice none 0 0) 28
  go_enter Try.func25, Try.ntmps25
  go_wp2_with (go_at_call 101; refine (field_Valid f _).mono ?_; rintro e w1 ⟨rfl, rfl⟩)
  refine bodyPost_ret (results_shares (b := w.heap.size) (u := .slice none 0 0) (v := .slice none 0 0) ?_ rfl rfl) rfl ?_
  · exact ⟨v60, v61, v62, v63, v64⟩
  · exact ⟨_, _, _, _, _, _, rfl, fun _ => ⟨rfl, rfl⟩, by repeat (first | exact Below.refl _ _ | with_reducible assumption | (refine bl_alloc ?_ (Nat.le_refl _) _) | (refine bl_set ?_ (by dsimp only; omega) _) | (refine Below.drew ?_) | (refine bl_drewN ?_ _) | (refine bl_call ?_ (Nat.le_refl _) (by assumption)))⟩

end Go.Proofs.Ytgambjmjbmdciaa
