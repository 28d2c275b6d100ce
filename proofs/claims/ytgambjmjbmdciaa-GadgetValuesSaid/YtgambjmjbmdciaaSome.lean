/-
  WALKS: tallymanlaw03.F, tallymanlaw31.some. Beside them: elements of a field as numbers.
-/
import Derived.Test.YtgambjmjbmdciaaTape
namespace Go.Proofs.Ytgambjmjbmdciaa
open Go.RowKit Fm
set_option linter.unusedVariables false
set_option maxRecDepth 100000

theorem law03_F (n : Int) (w : World) (h0 : 0 ≤ n) (h1 : n ≤ 255) :
    Calls Try.prog 23 #[.int .u8 n] w fun e w' => e = .returned (.int .u8 (n % 2 + 1)) ∧ w = w' := by
  go_enter Try.func23, Try.ntmps23
  go_wp2
  go_ret
  exact ⟨ret_int (by omega), rfl⟩

theorem FM.ref {f m : Int} (h : FM f m) : ∃ p0 p1, RefM f m p0 p1 := by
  rcases h.or with ⟨rfl, rfl⟩ | ⟨rfl, rfl⟩
  · exact ⟨_, _, ⟨.inl ⟨rfl, rfl, rfl, rfl⟩⟩⟩
  · exact ⟨_, _, ⟨.inr ⟨by omega, rfl, rfl, rfl⟩⟩⟩

theorem fieldOf (n : Int) (h0 : 0 ≤ n) : ∃ m, FM (n % 2 + 1) m := by
  have h : n % 2 = 0 ∨ n % 2 = 1 := by omega
  rcases h with h | h
  · exact ⟨_, ⟨.inl ⟨by omega, rfl⟩⟩⟩
  · exact ⟨_, ⟨.inr ⟨by omega, rfl⟩⟩⟩

theorem nI_eN {f m n : Int} (hf : FM f m) (h0 : 0 ≤ n) (h1 : n < m) : nI f (eN n).1 (eN n).2 = n := by
  unfold nI eN
  rcases hf.or with ⟨rfl, rfl⟩ | ⟨rfl, rfl⟩
  · rw [if_pos rfl]
    dsimp only
    omega
  · rw [if_neg (by omega)]
    dsimp only
    omega

/-- an element of the field: reduced -/
def RedE (m : Int) (e : E) : Prop := ∃ n : Int, 0 ≤ n ∧ n < m ∧ e = eN n
theorem redE_mod {m n : Int} (hm : 0 < m) : RedE m (eN (n % m)) := ⟨n % m, Int.emod_nonneg _ (by omega), Int.emod_lt_of_pos _ hm, rfl⟩
theorem RedE.nI_eq {f m : Int} {e : E} (hf : FM f m) (h : RedE m e) : eN (nI f e.1 e.2) = e ∧ 0 ≤ nI f e.1 e.2 ∧ nI f e.1 e.2 < m := by
  obtain ⟨n, h0, h1, rfl⟩ := h
  rw [nI_eN hf h0 h1]
  exact ⟨rfl, h0, h1⟩
theorem RedE.lt {m : Int} {e : E} (h : RedE m e) : e.1 + 18446744073709551616 * e.2 < m := by
  obtain ⟨n, h0, h1, rfl⟩ := h
  unfold eN
  dsimp only
  omega
theorem RedE.ok {f m : Int} {e : E} (hf : FM f m) (h : RedE m e) : okE e := by
  obtain ⟨n, h0, h1, rfl⟩ := h
  have := hf.pos
  exact okE_eN _ h0 (by omega)

/-- an argument's element at a place, reduced; 0 where there is none -/
def someAt (f m : Int) (l : List E) (j : Nat) : E := if l.length = 0 then (0, 0) else eN (nI f (l.getD (j % l.length) (0, 0)).1 (l.getD (j % l.length) (0, 0)).2 % m)
def someE (f m : Int) (l : List E) (many step : Nat) : List E := (List.range many).map fun i => someAt f m l (i * step + step)

theorem someAt_red {f m : Int} (hf : FM f m) (l : List E) (j : Nat) : RedE m (someAt f m l j) := by
  unfold someAt
  have hp := hf.pos
  split
  · exact ⟨0, by omega, by omega, rfl⟩
  · exact redE_mod hp.1
theorem someE_red {f m : Int} (hf : FM f m) (l : List E) (many step : Nat) : ∀ e, e ∈ someE f m l many step → RedE m e := by
  intro e he
  unfold someE at he
  rw [List.mem_map] at he
  obtain ⟨i, _, rfl⟩ := he
  exact someAt_red hf l _
theorem someE_length (f m : Int) (l : List E) (many step : Nat) : (someE f m l many step).length = many := by
  unfold someE
  rw [List.length_map, List.length_range]
theorem someE_at (f m : Int) (l : List E) (many step k : Nat) (hk : k < many) : (someE f m l many step)[k]? = some (someAt f m l (k * step + step)) := by
  unfold someE
  rw [List.getElem?_map, List.getElem?_range hk]
  rfl

/-- one slice of elements comes back, in a block of the call's own -/
def RetB (w : World) (zs : List E) (e : Ending) (w' : World) : Prop :=
  ∃ g, e = .returned (.slice (some ⟨g, 0, none⟩) zs.length zs.length) ∧ BlkE w' g zs ∧ w.heap.size ≤ g ∧ Below w.heap.size w w'

set_option maxHeartbeats 4000000 in
theorem law31_some (f m p0 p1 : Int) (hf : FM f m) (hm : RefM f m p0 p1) (vl : Value) (l : List E) (many step : Nat) (w : World) (hl : SlE w w.heap.size vl l) (hmany : many ≤ 65536) (hstep : step ≤ 16) :
    Calls Try.prog 24 #[.int .i64 f, vl, .int .i64 many, .int .i64 step] w (RetB w (someE f m l many step)) := by
  obtain ⟨⟨A, c, rfl, hc, hcm, hA⟩, hokl⟩ := hl
  obtain ⟨zs, hzs⟩ : ∃ zs, zs = someE f m l many step := ⟨_, rfl⟩
  have hzl : zs.length = many := by rw [hzs]; exact someE_length ..
  rw [← hzs]
  have HZS := Lib.hid hzs
  have HZL := Lib.hid hzl
  clear hzs hzl
  have hmk := make_elem many (by omega)
  by_cases hl0 : l.length = 0
  · have hd : decide ((0 : Int) < (l.length : Int)) = false := decide_eq_false (by omega)
    have hd2 : ¬ ((0 : Int) < (l.length : Int)) := by omega
    clear hA
    go_enter Try.func24, Try.ntmps24
    go_wp2
    go_loopw [15] (fun i wr => ∃ k : Nat, k ≤ many ∧ i = .int .i64 k ∧ BlkE wr w.heap.size (zs.take k ++ List.replicate (many - k) (0, 0)) ∧ Below w.heap.size w wr) (fun i _ => many - (intOf i).toNat)
    case atStart => exact ⟨0, Nat.zero_le _, rfl, heap_alloc_new w _, by repeat (first | exact Below.refl _ _ | with_reducible assumption | (refine bl_alloc ?_ (Nat.le_refl _) _) | (refine bl_set ?_ (by dsimp only; omega) _) | (refine Below.drew ?_) | (refine bl_drewN ?_ _) | (refine bl_call ?_ (Nat.le_refl _) (by assumption)))⟩
    case round =>
      obtain ⟨k, hk, rfl, HB, hbw⟩ := hrel
      by_cases hlt : k < many
      · have hez : zs[k]? = some (0, 0) := by
          rw [HZS.out, someE_at f m l many step k hlt]
          unfold someAt
          rw [if_pos hl0]
        have hst : zs.take k ++ List.replicate (many - k) ((0, 0) : E) = zs.take (k + 1) ++ List.replicate (many - (k + 1)) (0, 0) := by
          rw [List.take_add_one, hez, show many - k = (many - (k + 1)) + 1 from by omega, List.replicate_succ]
          simp
        rw [hst] at HB
        have HBH := Lib.hid HB
        clear hez hst HB
        go_wp2
        go_roundw
        case rel => exact ⟨k + 1, by omega, by go_num, HBH.out, by repeat (first | exact Below.refl _ _ | with_reducible assumption | (refine bl_alloc ?_ (Nat.le_refl _) _) | (refine bl_set ?_ (by dsimp only; omega) _) | (refine Below.drew ?_) | (refine bl_drewN ?_ _) | (refine bl_call ?_ (Nat.le_refl _) (by assumption)))⟩
        case measure => simp [intOf]; omega
      · obtain rfl : k = many := by omega
        go_wp2
        go_ret
        have h := HB
        rw [List.take_of_length_le (by rw [HZL.out]; exact Nat.le_refl _), Nat.sub_self, List.replicate_zero, List.append_nil] at h
        refine ⟨w.heap.size, ?_, h, Nat.le_refl _, by repeat (first | exact Below.refl _ _ | with_reducible assumption | (refine bl_alloc ?_ (Nat.le_refl _) _) | (refine bl_set ?_ (by dsimp only; omega) _) | (refine Below.drew ?_) | (refine bl_drewN ?_ _) | (refine bl_call ?_ (Nat.le_refl _) (by assumption)))⟩
        rw [HZL.out]
        rfl
  · have hd : decide ((0 : Int) < (l.length : Int)) = true := decide_eq_true (by omega)
    go_enter Try.func24, Try.ntmps24
    go_wp2
    go_loopw [15] (fun i wr => ∃ k : Nat, k ≤ many ∧ i = .int .i64 k ∧ BlkE wr w.heap.size (zs.take k ++ List.replicate (many - k) (0, 0)) ∧ Below w.heap.size w wr) (fun i _ => many - (intOf i).toNat)
    case atStart => exact ⟨0, Nat.zero_le _, rfl, heap_alloc_new w _, by repeat (first | exact Below.refl _ _ | with_reducible assumption | (refine bl_alloc ?_ (Nat.le_refl _) _) | (refine bl_set ?_ (by dsimp only; omega) _) | (refine Below.drew ?_) | (refine bl_drewN ?_ _) | (refine bl_call ?_ (Nat.le_refl _) (by assumption)))⟩
    case round =>
      obtain ⟨k, hk, rfl, HB, hbw⟩ := hrel
      by_cases hlt : k < many
      · obtain ⟨b, o, rfl, hB, hr⟩ := hA (by omega)
        have hj : (k * step + step) % l.length < l.length := Nat.mod_lt _ (by omega)
        obtain ⟨⟨x0, x1⟩, he⟩ : ∃ e, l[(k * step + step) % l.length]? = some e := ⟨_, List.getElem?_eq_getElem hj⟩
        obtain ⟨hx0, hx1, hx2, hx3⟩ := hokl _ (List.mem_of_getElem? he)
        obtain ⟨c0, c1⟩ := (hr.below hbw hB) _ _ he
        dsimp only at hx0 hx1 hx2 hx3 c0 c1
        have hez : zs[k]? = some (eN (nI f x0 x1 % m)) := by
          rw [HZS.out, someE_at f m l many step k hlt]
          unfold someAt
          rw [if_neg hl0, List.getD_eq_getElem?_getD, he]
          rfl
        have HEZ := Lib.hid hez
        have hzk : ∃ u v : Value, wr.cell? ⟨w.heap.size, k * 2, none⟩ = some u ∧ wr.cell? ⟨w.heap.size, k * 2 + 1, none⟩ = some v := by
          have hlen : k < (zs.take k ++ List.replicate (many - k) ((0, 0) : E)).length := by
            rw [List.length_append, List.length_take, List.length_replicate, HZL.out]
            omega
          obtain ⟨e1, e2⟩ := HB.row k _ (List.getElem?_eq_getElem hlen)
          exact ⟨_, _, e1, e2⟩
        obtain ⟨u, v, z0, z1⟩ := hzk
        have fz0 := HB.frozen (k * 2)
        have fz1 := HB.frozen (k * 2 + 1)
        have HBH := Lib.hid HB
        have hks : (k : Int) * (step : Int) ≤ 1048576 := by
          have h1 : k * step ≤ 65536 * 16 := Nat.mul_le_mul (by omega) hstep
          rw [← Int.natCast_mul]
          omega
        have hks0 : 0 ≤ (k : Int) * (step : Int) := by
          rw [← Int.natCast_mul]
          omega
        have hjn : 0 ≤ ((k : Int) * (step : Int) + (step : Int)) % (l.length : Int) := Int.emod_nonneg _ (by omega)
        have hjl : ((k : Int) * (step : Int) + (step : Int)) % (l.length : Int) < (l.length : Int) := Int.emod_lt_of_pos _ (by omega)
        have hjt : (((k : Int) * (step : Int) + (step : Int)) % (l.length : Int)).toNat = (k * step + step) % l.length := by
          rw [← Int.natCast_mul, ← Int.natCast_add, ← Int.natCast_emod, Int.toNat_natCast]
        clear he hr hA hez HB
        go_wp2_with (go_at_call 33; refine (ref_Of f m p0 p1 _ _ _ hm (by omega) (by omega) (by omega) (by omega)).mono ?_; rintro e w6 ⟨r0, r1, rfl, ⟨hr0, hr1, hr2, hr3⟩, HR, hb6⟩; have z60 := cell_call z0 hb6; have z61 := cell_call z1 hb6; have g60 := frozen_call (lt_of_cell z0) fz0 hb6; have g61 := frozen_call (lt_of_cell z1) fz1 hb6)
        go_roundw
        case rel =>
          have h := (HBH.out.call hb6).set k r0 r1
          rw [fill_step zs _ _ k (r0, r1) HZL.out hlt (HEZ.out.trans (by rw [eN_of HR.out hr0 hr1]))] at h
          exact ⟨k + 1, by omega, by go_num, h, by repeat (first | exact Below.refl _ _ | with_reducible assumption | (refine bl_alloc ?_ (Nat.le_refl _) _) | (refine bl_set ?_ (by dsimp only; omega) _) | (refine Below.drew ?_) | (refine bl_drewN ?_ _) | (refine bl_call ?_ (Nat.le_refl _) (by assumption)))⟩
        case measure => simp [intOf]; omega
      · obtain rfl : k = many := by omega
        go_wp2
        go_ret
        have h := HB
        rw [List.take_of_length_le (by rw [HZL.out]; exact Nat.le_refl _), Nat.sub_self, List.replicate_zero, List.append_nil] at h
        refine ⟨w.heap.size, ?_, h, Nat.le_refl _, by repeat (first | exact Below.refl _ _ | with_reducible assumption | (refine bl_alloc ?_ (Nat.le_refl _) _) | (refine bl_set ?_ (by dsimp only; omega) _) | (refine Below.drew ?_) | (refine bl_drewN ?_ _) | (refine bl_call ?_ (Nat.le_refl _) (by assumption)))⟩
        rw [HZL.out]
        rfl

end Go.Proofs.Ytgambjmjbmdciaa
