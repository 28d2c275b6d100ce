/-
  WALKS: field.pair with Add and Sub: AddVec, SubVec.
-/
import Derived.Test.YtgambjmjbmdciaaSlice2
import Derived.Test.YtgambjmjbmdciaaField
namespace Go.Proofs.Ytgambjmjbmdciaa
open Go.RowKit Fm
set_option linter.unusedVariables false
set_option maxRecDepth 100000

theorem eN_of {x0 x1 n : Int} (h : x0 + 18446744073709551616 * x1 = n) (h0 : 0 ≤ x0) (h1 : x0 ≤ 18446744073709551615) : (x0, x1) = eN n := by
  unfold eN
  rw [Prod.mk.injEq]
  omega

/-- place by place -/
def zipO (op : Int → Int → Int) (f m : Int) (xs ys : List E) : List E := List.zipWith (fun a b => eN (op (nI f a.1 a.2) (nI f b.1 b.2) % m)) xs ys

theorem FM.pos {f m : Int} (h : FM f m) : 0 < m ∧ m ≤ 340282366920938462946865773367900766209 := by
  rcases h.or with ⟨_, rfl⟩ | ⟨_, rfl⟩ <;> omega

theorem okE_eN' {n m : Int} (h : 0 < m ∧ m ≤ 340282366920938462946865773367900766209) : okE (eN (n % m)) := by
  have h1 := Int.emod_nonneg n (b := m) (by omega)
  have h2 := Int.emod_lt_of_pos n h.1
  exact okE_eN _ h1 (by omega)

theorem okE_zipO {op : Int → Int → Int} {f m : Int} (h : FM f m) (xs ys : List E) : ∀ e, e ∈ zipO op f m xs ys → okE e := by
  intro e he
  unfold zipO at he
  rw [List.mem_iff_getElem?] at he
  obtain ⟨i, hi⟩ := he
  rw [List.getElem?_zipWith] at hi
  split at hi
  · simp only [Option.some.injEq] at hi
    rw [← hi]
    exact okE_eN' h.pos
  · cases hi

theorem fill_step {α : Type} (zs : List α) (z : α) (n k : Nat) (e : α) (hz : zs.length = n) (hk : k < n) (he : zs[k]? = some e) :
    (zs.take k ++ List.replicate (n - k) z).set k e = zs.take (k + 1) ++ List.replicate (n - (k + 1)) z := by
  have hl : (zs.take k).length = k := by rw [List.length_take]; omega
  rw [List.take_add_one, he, List.set_append_right _ _ (by omega), hl, Nat.sub_self, show n - k = (n - (k + 1)) + 1 from by omega, List.replicate_succ, List.set_cons_zero]
  simp

/-- a slice of elements comes back, in a block of the call's own; no error -/
def RetSl (w : World) (zs : List E) (e : Ending) (w' : World) : Prop :=
  ∃ g, e = .returned (.tuple #[.slice (some ⟨g, 0, none⟩) zs.length zs.length, .int .i64 0]) ∧ BlkE w' g zs ∧ w.heap.size ≤ g ∧ Below w.heap.size w w'

set_option maxHeartbeats 4000000 in
theorem pair_Sub (f m : Int) (hf : FM f m) (va vb : Value) (xs ys : List E) (w : World) (hx : SlE w w.heap.size va xs) (hy : SlE w w.heap.size vb ys) (hl : xs.length = ys.length) (hn : xs.length ≤ 1099511627776) :
    Calls Try.prog 103 #[va, vb, .func (.func 100) #[.int .u8 f] #[]] w (RetSl w (zipO (· - ·) f m xs ys)) := by
  obtain ⟨⟨A, c, rfl, hc, hcm, hA⟩, hokx⟩ := hx
  obtain ⟨⟨A', c', rfl, hc', hcm', hA'⟩, hoky⟩ := hy
  obtain ⟨zs, hzs⟩ : ∃ zs, zs = zipO (· - ·) f m xs ys := ⟨_, rfl⟩
  have hzl : zs.length = xs.length := by rw [hzs]; unfold zipO; rw [List.length_zipWith]; omega
  rw [← hzs]
  have HZS := Lib.hid hzs
  have HZL := Lib.hid hzl
  have HL := Lib.hid hl
  have hb : ((xs.length : Int) != (ys.length : Int)) = false := by simp; omega
  clear hzs hzl hl
  have hmk := make_elem xs.length hn
  go_enter Try.func103, Try.ntmps103
  go_wp2_with fail
  go_loopw [20] (fun i wr => ∃ k : Nat, k ≤ xs.length ∧ i = .int .i64 k ∧ BlkE wr w.heap.size (zs.take k ++ List.replicate (xs.length - k) (0, 0)) ∧ Below w.heap.size w wr) (fun i _ => xs.length - (intOf i).toNat)
  case atStart => exact ⟨0, Nat.zero_le _, rfl, heap_alloc_new w _, by repeat (first | exact Below.refl _ _ | with_reducible assumption | (refine bl_alloc ?_ (Nat.le_refl _) _) | (refine bl_set ?_ (by dsimp only; omega) _) | (refine Below.drew ?_) | (refine bl_drewN ?_ _) | (refine bl_call ?_ (Nat.le_refl _) (by assumption)))⟩
  case round =>
    obtain ⟨k, hk, rfl, HB, hbw⟩ := hrel
    by_cases hlt : k < xs.length
    · obtain ⟨b, o, rfl, hB, hr⟩ := hA (by omega)
      obtain ⟨b', o', rfl, hB', hr'⟩ := hA' (by have := HL.out; omega)
      have hlt' : k < ys.length := by have := HL.out; omega
      obtain ⟨⟨x0, x1⟩, he⟩ : ∃ e, xs[k]? = some e := ⟨_, List.getElem?_eq_getElem hlt⟩
      obtain ⟨⟨y0, y1⟩, he'⟩ : ∃ e, ys[k]? = some e := ⟨_, List.getElem?_eq_getElem hlt'⟩
      have hkx := hokx _ (List.mem_of_getElem? he)
      have hky := hoky _ (List.mem_of_getElem? he')
      obtain ⟨hx0, hx1, hx2, hx3⟩ := hkx
      obtain ⟨hy0, hy1, hy2, hy3⟩ := hky
      dsimp only at hx0 hx1 hx2 hx3 hy0 hy1 hy2 hy3
      have hrw := hr.below hbw hB
      have hrw' := hr'.below hbw hB'
      obtain ⟨c0, c1⟩ := hrw k _ he
      obtain ⟨d0, d1⟩ := hrw' k _ he'
      dsimp only at c0 c1 d0 d1
      have hez : zs[k]? = some (eN ((nI f x0 x1 - nI f y0 y1) % m)) := by
        rw [HZS.out]
        unfold zipO
        rw [List.getElem?_zipWith, he, he']
      have HEZ := Lib.hid hez
      have hzk : ∃ u v : Value, wr.cell? ⟨w.heap.size, k * 2, none⟩ = some u ∧ wr.cell? ⟨w.heap.size, k * 2 + 1, none⟩ = some v := by
        have hlen : k < (zs.take k ++ List.replicate (xs.length - k) ((0, 0) : E)).length := by
          rw [List.length_append, List.length_take, List.length_replicate, HZL.out]
          omega
        obtain ⟨e1, e2⟩ := HB.row k _ (List.getElem?_eq_getElem hlen)
        exact ⟨_, _, e1, e2⟩
      obtain ⟨u, v, z0, z1⟩ := hzk
      have fz0 := HB.frozen (k * 2)
      have fz1 := HB.frozen (k * 2 + 1)
      have HBH := Lib.hid HB
      clear he he' hr hr' hA hA' hez hrw hrw' HB
      go_wp2_with fail
      go_region_with (first
        | (go_at_call 100; refine (field_Sub f m _ _ _ _ _ hf (by omega) (by omega) (by omega) (by omega) (by omega) (by omega) (by omega) (by omega)).mono ?_; rintro e w6 ⟨r0, r1, rfl, ⟨hr0, hr1, hr2, hr3⟩, HR, hb6'⟩; have hb6 := undrew hb6'; clear hb6'; have z60 := cell_call z0 hb6; have z61 := cell_call z1 hb6; have g60 := frozen_call (lt_of_cell z0) fz0 hb6; have g61 := frozen_call (lt_of_cell z1) fz1 hb6))
      all_goals
        go_wp2
        go_roundw
        case rel =>
          have h := (HBH.out.call hb6).set k r0 r1
          rw [fill_step zs _ _ k (r0, r1) HZL.out hlt (HEZ.out.trans (by rw [eN_of HR.out hr0 hr1]))] at h
          exact ⟨k + 1, by omega, by go_num, h, by repeat (first | exact Below.refl _ _ | with_reducible assumption | (refine bl_alloc ?_ (Nat.le_refl _) _) | (refine bl_set ?_ (by dsimp only; omega) _) | (refine Below.drew ?_) | (refine bl_drewN ?_ _) | (refine bl_call ?_ (Nat.le_refl _) (by assumption)))⟩
        case measure => simp [intOf]; omega
    · obtain rfl : k = xs.length := by omega
      go_wp2
      go_ret2
      have h := HB
      rw [List.take_of_length_le (by rw [HZL.out]; exact Nat.le_refl _), Nat.sub_self, List.replicate_zero, List.append_nil] at h
      refine ⟨w.heap.size, ?_, h, Nat.le_refl _, by repeat (first | exact Below.refl _ _ | with_reducible assumption | (refine bl_alloc ?_ (Nat.le_refl _) _) | (refine bl_set ?_ (by dsimp only; omega) _) | (refine Below.drew ?_) | (refine bl_drewN ?_ _) | (refine bl_call ?_ (Nat.le_refl _) (by assumption)))⟩
      rw [HZL.out]
      rfl

set_option maxHeartbeats 4000000 in
theorem pair_Add (f m : Int) (hf : FM f m) (va vb : Value) (xs ys : List E) (w : World) (hx : SlE w w.heap.size va xs) (hy : SlE w w.heap.size vb ys) (hl : xs.length = ys.length) (hn : xs.length ≤ 1099511627776) :
    Calls Try.prog 103 #[va, vb, .func (.func 56) #[.int .u8 f] #[]] w (RetSl w (zipO (· + ·) f m xs ys)) := by
  obtain ⟨⟨A, c, rfl, hc, hcm, hA⟩, hokx⟩ := hx
  obtain ⟨⟨A', c', rfl, hc', hcm', hA'⟩, hoky⟩ := hy
  obtain ⟨zs, hzs⟩ : ∃ zs, zs = zipO (· + ·) f m xs ys := ⟨_, rfl⟩
  have hzl : zs.length = xs.length := by rw [hzs]; unfold zipO; rw [List.length_zipWith]; omega
  rw [← hzs]
  have HZS := Lib.hid hzs
  have HZL := Lib.hid hzl
  have HL := Lib.hid hl
  have hb : ((xs.length : Int) != (ys.length : Int)) = false := by simp; omega
  clear hzs hzl hl
  have hmk := make_elem xs.length hn
  go_enter Try.func103, Try.ntmps103
  go_wp2_with fail
  go_loopw [20] (fun i wr => ∃ k : Nat, k ≤ xs.length ∧ i = .int .i64 k ∧ BlkE wr w.heap.size (zs.take k ++ List.replicate (xs.length - k) (0, 0)) ∧ Below w.heap.size w wr) (fun i _ => xs.length - (intOf i).toNat)
  case atStart => exact ⟨0, Nat.zero_le _, rfl, heap_alloc_new w _, by repeat (first | exact Below.refl _ _ | with_reducible assumption | (refine bl_alloc ?_ (Nat.le_refl _) _) | (refine bl_set ?_ (by dsimp only; omega) _) | (refine Below.drew ?_) | (refine bl_drewN ?_ _) | (refine bl_call ?_ (Nat.le_refl _) (by assumption)))⟩
  case round =>
    obtain ⟨k, hk, rfl, HB, hbw⟩ := hrel
    by_cases hlt : k < xs.length
    · obtain ⟨b, o, rfl, hB, hr⟩ := hA (by omega)
      obtain ⟨b', o', rfl, hB', hr'⟩ := hA' (by have := HL.out; omega)
      have hlt' : k < ys.length := by have := HL.out; omega
      obtain ⟨⟨x0, x1⟩, he⟩ : ∃ e, xs[k]? = some e := ⟨_, List.getElem?_eq_getElem hlt⟩
      obtain ⟨⟨y0, y1⟩, he'⟩ : ∃ e, ys[k]? = some e := ⟨_, List.getElem?_eq_getElem hlt'⟩
      have hkx := hokx _ (List.mem_of_getElem? he)
      have hky := hoky _ (List.mem_of_getElem? he')
      obtain ⟨hx0, hx1, hx2, hx3⟩ := hkx
      obtain ⟨hy0, hy1, hy2, hy3⟩ := hky
      dsimp only at hx0 hx1 hx2 hx3 hy0 hy1 hy2 hy3
      have hrw := hr.below hbw hB
      have hrw' := hr'.below hbw hB'
      obtain ⟨c0, c1⟩ := hrw k _ he
      obtain ⟨d0, d1⟩ := hrw' k _ he'
      dsimp only at c0 c1 d0 d1
      have hez : zs[k]? = some (eN ((nI f x0 x1 + nI f y0 y1) % m)) := by
        rw [HZS.out]
        unfold zipO
        rw [List.getElem?_zipWith, he, he']
      have HEZ := Lib.hid hez
      have hzk : ∃ u v : Value, wr.cell? ⟨w.heap.size, k * 2, none⟩ = some u ∧ wr.cell? ⟨w.heap.size, k * 2 + 1, none⟩ = some v := by
        have hlen : k < (zs.take k ++ List.replicate (xs.length - k) ((0, 0) : E)).length := by
          rw [List.length_append, List.length_take, List.length_replicate, HZL.out]
          omega
        obtain ⟨e1, e2⟩ := HB.row k _ (List.getElem?_eq_getElem hlen)
        exact ⟨_, _, e1, e2⟩
      obtain ⟨u, v, z0, z1⟩ := hzk
      have fz0 := HB.frozen (k * 2)
      have fz1 := HB.frozen (k * 2 + 1)
      have HBH := Lib.hid HB
      clear he he' hr hr' hA hA' hez hrw hrw' HB
      go_wp2_with fail
      go_region_with (first
        | (go_at_call 56; refine (field_Add f m _ _ _ _ _ hf (by omega) (by omega) (by omega) (by omega) (by omega) (by omega) (by omega) (by omega)).mono ?_; rintro e w6 ⟨r0, r1, rfl, ⟨hr0, hr1, hr2, hr3⟩, HR, hb6'⟩; have hb6 := undrew hb6'; clear hb6'; have z60 := cell_call z0 hb6; have z61 := cell_call z1 hb6; have g60 := frozen_call (lt_of_cell z0) fz0 hb6; have g61 := frozen_call (lt_of_cell z1) fz1 hb6))
      all_goals
        go_wp2
        go_roundw
        case rel =>
          have h := (HBH.out.call hb6).set k r0 r1
          rw [fill_step zs _ _ k (r0, r1) HZL.out hlt (HEZ.out.trans (by rw [eN_of HR.out hr0 hr1]))] at h
          exact ⟨k + 1, by omega, by go_num, h, by repeat (first | exact Below.refl _ _ | with_reducible assumption | (refine bl_alloc ?_ (Nat.le_refl _) _) | (refine bl_set ?_ (by dsimp only; omega) _) | (refine Below.drew ?_) | (refine bl_drewN ?_ _) | (refine bl_call ?_ (Nat.le_refl _) (by assumption)))⟩
        case measure => simp [intOf]; omega
    · obtain rfl : k = xs.length := by omega
      go_wp2
      go_ret2
      have h := HB
      rw [List.take_of_length_le (by rw [HZL.out]; exact Nat.le_refl _), Nat.sub_self, List.replicate_zero, List.append_nil] at h
      refine ⟨w.heap.size, ?_, h, Nat.le_refl _, by repeat (first | exact Below.refl _ _ | with_reducible assumption | (refine bl_alloc ?_ (Nat.le_refl _) _) | (refine bl_set ?_ (by dsimp only; omega) _) | (refine Below.drew ?_) | (refine bl_drewN ?_ _) | (refine bl_call ?_ (Nat.le_refl _) (by assumption)))⟩
      rw [HZL.out]
      rfl

/-- no slice, an error -/
def RetErr (n : Int) (w : World) (e : Ending) (w' : World) : Prop := e = .returned (.tuple #[.slice none 0 0, .int .i64 n]) ∧ Below w.heap.size w w'

theorem pair_size (va vb vf : Value) (xs ys : List E) (w : World) (hx : SlE w w.heap.size va xs) (hy : SlE w w.heap.size vb ys) (hl : xs.length ≠ ys.length) :
    Calls Try.prog 103 #[va, vb, vf] w (RetErr 9 w) := by
  obtain ⟨⟨A, c, rfl, hc, hcm, hA⟩, hokx⟩ := hx
  obtain ⟨⟨A', c', rfl, hc', hcm', hA'⟩, hoky⟩ := hy
  clear hA hA'
  have hb : ((xs.length : Int) != (ys.length : Int)) = true := by simp; omega
  go_enter Try.func103, Try.ntmps103
  go_wp2
  go_ret2
  exact ⟨rfl, by repeat (first | exact Below.refl _ _ | with_reducible assumption | (refine bl_alloc ?_ (Nat.le_refl _) _) | (refine bl_set ?_ (by dsimp only; omega) _) | (refine Below.drew ?_) | (refine bl_drewN ?_ _) | (refine bl_call ?_ (Nat.le_refl _) (by assumption)))⟩

theorem field_AddVec (f m : Int) (hf : FM f m) (va vb : Value) (xs ys : List E) (w : World) (hx : SlE w w.heap.size va xs) (hy : SlE w w.heap.size vb ys) (hl : xs.length = ys.length) (hn : xs.length ≤ 1099511627776) :
    Calls Try.prog 28 #[.int .u8 f, va, vb] w (RetSl w (zipO (· + ·) f m xs ys)) := by
  have hc := pair_Add f m hf va vb xs ys w hx hy hl hn
  obtain ⟨⟨A, c, rfl, hc, hcm, hA⟩, hokx⟩ := hx
  obtain ⟨⟨A', c', rfl, hc', hcm', hA'⟩, hoky⟩ := hy
  have HC := Lib.hid hc
  clear hc hl
  have hmf : ∀ (fn : Fn) (first cap : Array Value) (w : World), (Instr.makeFunc fn first cap).run Try.prog w = .ok (.func fn first cap) w := fun _ _ _ _ => rfl
  go_enter Try.func28, Try.ntmps28
  go_wp2_with fail
  refine HC.out.mono ?_
  rintro e w1 ⟨g, rfl, hB, hg, hb⟩
  go_wp2
  go_ret2
  exact ⟨g, rfl, hB, hg, hb⟩

theorem field_AddVec_size (f : Int) (va vb : Value) (xs ys : List E) (w : World) (hx : SlE w w.heap.size va xs) (hy : SlE w w.heap.size vb ys) (hl : xs.length ≠ ys.length) :
    Calls Try.prog 28 #[.int .u8 f, va, vb] w (RetErr 9 w) := by
  have hc := fun vf => pair_size va vb vf xs ys w hx hy hl
  obtain ⟨⟨A, c, rfl, hc, hcm, hA⟩, hokx⟩ := hx
  obtain ⟨⟨A', c', rfl, hc', hcm', hA'⟩, hoky⟩ := hy
  have HC := Lib.hid hc
  clear hc hl
  have hmf : ∀ (fn : Fn) (first cap : Array Value) (w : World), (Instr.makeFunc fn first cap).run Try.prog w = .ok (.func fn first cap) w := fun _ _ _ _ => rfl
  go_enter Try.func28, Try.ntmps28
  go_wp2_with fail
  refine (HC.out _).mono ?_
  rintro e w1 ⟨rfl, hb⟩
  go_wp2
  go_ret2
  exact ⟨rfl, hb⟩

theorem field_SubVec (f m : Int) (hf : FM f m) (va vb : Value) (xs ys : List E) (w : World) (hx : SlE w w.heap.size va xs) (hy : SlE w w.heap.size vb ys) (hl : xs.length = ys.length) (hn : xs.length ≤ 1099511627776) :
    Calls Try.prog 55 #[.int .u8 f, va, vb] w (RetSl w (zipO (· - ·) f m xs ys)) := by
  have hc := pair_Sub f m hf va vb xs ys w hx hy hl hn
  obtain ⟨⟨A, c, rfl, hc, hcm, hA⟩, hokx⟩ := hx
  obtain ⟨⟨A', c', rfl, hc', hcm', hA'⟩, hoky⟩ := hy
  have HC := Lib.hid hc
  clear hc hl
  have hmf : ∀ (fn : Fn) (first cap : Array Value) (w : World), (Instr.makeFunc fn first cap).run Try.prog w = .ok (.func fn first cap) w := fun _ _ _ _ => rfl
  go_enter Try.func55, Try.ntmps55
  go_wp2_with fail
  refine HC.out.mono ?_
  rintro e w1 ⟨g, rfl, hB, hg, hb⟩
  go_wp2
  go_ret2
  exact ⟨g, rfl, hB, hg, hb⟩

theorem field_SubVec_size (f : Int) (va vb : Value) (xs ys : List E) (w : World) (hx : SlE w w.heap.size va xs) (hy : SlE w w.heap.size vb ys) (hl : xs.length ≠ ys.length) :
    Calls Try.prog 55 #[.int .u8 f, va, vb] w (RetErr 9 w) := by
  have hc := fun vf => pair_size va vb vf xs ys w hx hy hl
  obtain ⟨⟨A, c, rfl, hc, hcm, hA⟩, hokx⟩ := hx
  obtain ⟨⟨A', c', rfl, hc', hcm', hA'⟩, hoky⟩ := hy
  have HC := Lib.hid hc
  clear hc hl
  have hmf : ∀ (fn : Fn) (first cap : Array Value) (w : World), (Instr.makeFunc fn first cap).run Try.prog w = .ok (.func fn first cap) w := fun _ _ _ _ => rfl
  go_enter Try.func55, Try.ntmps55
  go_wp2_with fail
  refine (HC.out _).mono ?_
  rintro e w1 ⟨rfl, hb⟩
  go_wp2
  go_ret2
  exact ⟨rfl, hb⟩

end Go.Proofs.Ytgambjmjbmdciaa
