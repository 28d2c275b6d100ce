/-
  WALKS: tape.Split, tape.Retape.
-/
import Derived.Test.YtgambjmjbmdciaaPair
import Derived.Test.YtgambjmjbmdciaaAppend
namespace Go.Proofs.Ytgambjmjbmdciaa
open Go.RowKit Fm
set_option linter.unusedVariables false
set_option maxRecDepth 100000

/-- each is an element of the field of modulus m -/
def AllIn (m : Int) (xs : List E) : Prop := ∀ e, e ∈ xs → e.1 + 18446744073709551616 * e.2 < m

/-- a variable of two slices is loaded, is a result -/
theorem load_shares {w : World} {b : Nat} {u v : Value} (h : V2 w b u v) : (loadVar 28 ⟨b, 0, none⟩).run Try.prog w = .ok (.agg #[u, v]) w := by
  simp [loadVar, go_sem, h.c0, h.c1]

theorem results_shares {fn : Func} {p e : Tmp} {tmps : Array Value} {w : World} {b : Nat} {u v : Value} (hv : V2 w b u v) (h : fn.results = #[.cell p 28, .tmp e]) (hp : tmps.getD p undef = .pointer (some ⟨b, 0, none⟩)) :
    (results fn tmps).run Try.prog w = .ok (.tuple #[.agg #[u, v], tmps.getD e undef]) w := by
  have hl := load_shares hv
  rw [results_cell_tmp h, hp]
  simp only [asAddr, Sem.run_pure, Result.andThen, hl]

/-- two shares come back: the differences, and a copy -/
def RetShares (w : World) (zs ys : List E) (e : Ending) (w' : World) : Prop :=
  ∃ u v : Value, e = .returned (.tuple #[.agg #[u, v], .int .i64 0]) ∧ SlE w' w'.heap.size u zs ∧ SlE w' w'.heap.size v ys ∧ Below w.heap.size w w'

set_option maxHeartbeats 4000000 in
theorem tape_Split (f m : Int) (hf : FM f m) (va vb : Value) (xs ys : List E) (w : World) (hx : SlE w w.heap.size va xs) (hy : SlE w w.heap.size vb ys) (hl : xs.length = ys.length) (hn : xs.length ≤ 1099511627776)
    (ix : AllIn m xs) (iy : AllIn m ys) :
    Calls Try.prog 25 #[.int .u8 f, va, vb] w (RetShares w (zipO (· - ·) f m xs ys) ys) := by
  have hx0 := hx
  have hy0 := hy
  obtain ⟨⟨A, c, rfl, hc, hcm, hA⟩, hokx⟩ := hx
  obtain ⟨⟨A', c', rfl, hc', hcm', hA'⟩, hoky⟩ := hy
  have hbf : (f == 1 || f == 2) = true := by rcases hf.or with ⟨rfl, _⟩ | ⟨rfl, _⟩ <;> rfl
  have HL := Lib.hid hl
  clear hl
  go_enter Try.func25, Try.ntmps25
  go_wp2_with (go_at_call 101; refine (field_Valid f _).mono ?_; rintro e w1 ⟨rfl, rfl⟩)
  go_loopw [22] (fun i wr => ∃ k : Nat, k ≤ 2 ∧ i = .int .i64 k ∧ V2 wr w.heap.size (.slice none 0 0) (.slice none 0 0) ∧ V2 wr (w.heap.size + 1) (.slice A xs.length c) (.slice A' ys.length c') ∧ Below w.heap.size w wr) (fun i _ => 2 - (intOf i).toNat)
  case atStart =>
    have s0 := V2.new (w.alloc (.cells #[.slice none 0 0, .slice none 0 0] 28)) (.slice A xs.length c) (.slice A' ys.length c') 22
    simp only [World.size_alloc] at s0
    exact ⟨0, by omega, rfl, (V2.new w _ _ _).alloc _, s0, by repeat (first | exact Below.refl _ _ | with_reducible assumption | (refine bl_alloc ?_ (Nat.le_refl _) _) | (refine bl_set ?_ (by dsimp only; omega) _) | (refine Below.drew ?_) | (refine bl_drewN ?_ _) | (refine bl_call ?_ (Nat.le_refl _) (by assumption)))⟩
  case round =>
    obtain ⟨k, hk, rfl, hv, hs, hbw⟩ := hrel
    by_cases hlt : k < 2
    · have hL : ∃ (L : List E) (D : Option Addr) (cc : Nat), wr.cell? ⟨w.heap.size + 1, k, none⟩ = some (.slice D L.length cc) ∧ L.length ≤ cc ∧ cc ≤ 9223372036854775807 ∧ (0 < L.length → ∃ b o, D = some ⟨b, o, none⟩ ∧ b < w.heap.size ∧ RowE w b o L) ∧ AllIn m L ∧ (∀ e, e ∈ L → okE e) := by
        have h2 : k = 0 ∨ k = 1 := by omega
        rcases h2 with rfl | rfl
        · exact ⟨xs, A, c, hs.c0, hc, hcm, hA, ix, hokx⟩
        · exact ⟨ys, A', c', hs.c1, hc', hcm', hA', iy, hoky⟩
      obtain ⟨L, D, cc, hcell, hLc, hLm, hLA, hLI, hLok⟩ := hL
      have hd2 : decide ((k : Int) < 2) = true := by simp; omega
      go_wp2
      obtain ⟨wo, hwo⟩ : ∃ wo : World, wo = wr := ⟨_, rfl⟩
      subst hwo
      go_loopw [28] (fun j wi => ∃ q : Nat, q ≤ L.length ∧ j = .int .i64 q ∧ V2 wi w.heap.size (.slice none 0 0) (.slice none 0 0) ∧ V2 wi (w.heap.size + 1) (.slice A xs.length c) (.slice A' ys.length c') ∧ Below w.heap.size w wi) (fun j _ => L.length - (intOf j).toNat)
      case atStart => exact ⟨0, Nat.zero_le _, rfl, hv, hs, hbw⟩
      case round =>
        obtain ⟨q, hq, rfl, hv', hs', hbw'⟩ := hrel
        by_cases hlq : q < L.length
        · obtain ⟨b, o, rfl, hB, hr⟩ := hLA (by omega)
          obtain ⟨⟨x0, x1⟩, he⟩ : ∃ e, L[q]? = some e := ⟨_, List.getElem?_eq_getElem hlq⟩
          obtain ⟨hx0, hx1, hx2, hx3⟩ := hLok _ (List.mem_of_getElem? he)
          have hin := hLI _ (List.mem_of_getElem? he)
          obtain ⟨c0, c1⟩ := (hr.below hbw' hB) q _ he
          dsimp only at hx0 hx1 hx2 hx3 hin c0 c1
          have hd : decide (x0 + 18446744073709551616 * x1 < m) = true := by simp; omega
          clear hin hLA hr he
          go_wp2_with (go_at_call 102; refine (field_In f m _ _ _ hf (by omega) (by omega) (by omega) (by omega)).mono ?_; rintro e w6 ⟨rfl, hb6⟩)
          have hv6 := (hv'.alloc (.cells #[.int .u64 x0, .int .u64 x1] 41)).call hb6
          have hs6 := (hs'.alloc (.cells #[.int .u64 x0, .int .u64 x1] 41)).call hb6
          have hbw6 : Below w.heap.size w w6 := by repeat (first | exact Below.refl _ _ | with_reducible assumption | (refine bl_alloc ?_ (Nat.le_refl _) _) | (refine bl_set ?_ (by dsimp only; omega) _) | (refine Below.drew ?_) | (refine bl_drewN ?_ _) | (refine bl_call ?_ (Nat.le_refl _) (by assumption)))
          go_roundw
          case rel => exact ⟨q + 1, by omega, by go_num, hv6, hs6, hbw6⟩
          case measure => simp [intOf]; omega
        · obtain rfl : q = L.length := by omega
          go_wp2
          go_roundw
          case rel => exact ⟨k + 1, by omega, by go_num, hv', hs', hbw'⟩
          case measure => simp [intOf]; omega
    · obtain rfl : k = 2 := by omega
      have hxr := (hx0.below hbw).mono hbw.size
      have hyr := (hy0.below hbw).mono hbw.size
      go_wp2_with fail
      refine (field_SubVec f m hf _ _ xs ys _ hxr hyr HL.out hn).mono ?_
      rintro e w1 ⟨g, rfl, hB, hg, hb1⟩
      have hv1 := hv.call hb1
      have hb1a : Below w1.heap.size w1 (w1.alloc (.cells #[] 41)) := (Below.refl _ _).alloc (Nat.le_refl _) _
      have HYR : 0 < ys.length → ∃ b o, A' = some ⟨b, o, none⟩ ∧ RowE (w1.alloc (.cells #[] 41)) b o ys := by
        intro h
        obtain ⟨b, o, h1, h2, h3⟩ := hA' h
        exact ⟨b, o, h1, ((h3.below hbw h2).call hb1).call hb1a⟩
      have hown0 : (w1.alloc (.cells #[] 41)).ownsRow w1.heap.size 41 2 (.slice (some ⟨w1.heap.size, 0, none⟩) 0 0) 0 (cellsE []) := World.ownsRow_made w1 #[] 0 (Nat.le_refl _) (by unfold maxLen; omega) rfl
      have hny : ys.length ≤ 1099511627776 := by have := HL.out; omega
      have hzl : w.heap.size < w1.heap.size := hv1.lt
      have hv1' := hv1
      obtain ⟨v10, v11, v12, v13, v14⟩ := hv1'
      have hBH := Lib.hid hB
      clear hB
      go_upto_region 16 with fail
      go_wp2_with (at_builtin; (refine wpList_append_E rfl (.tmp 51) (.tmp 52) rfl w1.heap.size _ 0 [] rfl hown0 A' ys.length c' ys rfl rfl HYR (by omega) (by simp) ?_; intro v2 w2 hown2 hg2 hat2; have hb2 : Below w1.heap.size w1 w2 := hb1a.grown hg2 (by simp) (fun k hk => Nat.le_of_eq (Option.some.inj hk)); obtain ⟨v20, v21, v22, v23, v24⟩ := hv1.call hb2; obtain ⟨⟨A2, c2, hveq, _⟩, _⟩ := SlE.of_own (by simpa using hown2) hoky; rw [hveq]))
      refine bodyPost_ret (results_shares (b := w.heap.size) (u := .slice (some ⟨g, 0, none⟩) (zipO (· - ·) f m xs ys).length (zipO (· - ·) f m xs ys).length) (v := .slice A2 ys.length c2) ?_ rfl rfl) rfl ?_
      · exact V2.set ⟨v20, v21, v22, v23, v24⟩ _ _
      · have hzlen : (zipO (· - ·) f m xs ys).length ≤ 9223372036854775807 := by
          unfold zipO
          rw [List.length_zipWith]
          omega
        have hne : g ≠ w.heap.size := by have := hbw.size; have := hv.lt; omega
        refine ⟨_, _, rfl, BlkE.sl (((hBH.out.call hb2).far hne _).far hne _) hzlen (okE_zipO hf xs ys) ?_, ?_, ?_⟩
        · have := (hBH.out.call hb2).lt
          simpa [World.setCell] using this
        · rw [← hveq]
          exact SlE.of_own (ownsRow_setCell_below (ownsRow_setCell_below (by simpa using hown2) hzl _) hzl _) hoky
        · exact by repeat (first | exact Below.refl _ _ | with_reducible assumption | (refine bl_alloc ?_ (Nat.le_refl _) _) | (refine bl_set ?_ (by dsimp only; omega) _) | (refine Below.drew ?_) | (refine bl_drewN ?_ _) | (refine bl_call ?_ (Nat.le_refl _) (by assumption)))

set_option maxHeartbeats 4000000 in
theorem tape_Retape (f m : Int) (hf : FM f m) (va vo vb : Value) (xs os ys : List E) (w : World) (hx : SlE w w.heap.size va xs) (ho : SlE w w.heap.size vo os) (hy : SlE w w.heap.size vb ys) (hl : xs.length = ys.length) (hlo : os.length = ys.length) (hn : xs.length ≤ 1099511627776)
    (ix : AllIn m xs) (io : AllIn m os) (iy : AllIn m ys) :
    Calls Try.prog 26 #[.int .u8 f, va, vo, vb] w (RetSl w (zipO (· - ·) f m os (zipO (· - ·) f m xs ys))) := by
  have hS := tape_Split f m hf va vb xs ys w hx hy hl hn ix iy
  have HS := Lib.hid hS
  have ho0 := ho
  obtain ⟨⟨A, c, rfl, hc, hcm, hA⟩, hokx⟩ := hx
  obtain ⟨⟨A', c', rfl, hc', hcm', hA'⟩, hoky⟩ := hy
  obtain ⟨⟨D, cc, rfl, hLc, hLm, hLA⟩, hLok⟩ := ho
  have hzl : os.length = (zipO (· - ·) f m xs ys).length := by unfold zipO; rw [List.length_zipWith]; omega
  have HZL := Lib.hid hzl
  have hno : os.length ≤ 1099511627776 := by omega
  have HNO := Lib.hid hno
  clear hno
  clear hl hlo hzl hA hA' hS
  go_enter Try.func26, Try.ntmps26
  go_wp2_with fail
  refine HS.out.mono ?_
  rintro e w1 ⟨u, v, rfl, hu, hv, hb1⟩
  have hu0 := hu
  obtain ⟨⟨U, uc, rfl, huc, hum, hUA⟩, huok⟩ := hu
  obtain ⟨⟨V, vc, rfl, hvc, hvm, hVA⟩, hvok⟩ := hv
  go_wp2
  go_loopw [26] (fun j wi => ∃ q : Nat, q ≤ os.length ∧ j = .int .i64 q ∧ V2 wi w1.heap.size (.slice U (zipO (· - ·) f m xs ys).length uc) (.slice V ys.length vc) ∧ Below w1.heap.size w1 wi) (fun j _ => os.length - (intOf j).toNat)
  case atStart => exact ⟨0, Nat.zero_le _, rfl, V2.new w1 _ _ _, by repeat (first | exact Below.refl _ _ | with_reducible assumption | (refine bl_alloc ?_ (Nat.le_refl _) _) | (refine bl_set ?_ (by dsimp only; omega) _) | (refine Below.drew ?_) | (refine bl_drewN ?_ _) | (refine bl_call ?_ (Nat.le_refl _) (by assumption)))⟩
  case round =>
    obtain ⟨q, hq, rfl, hs', hbw'⟩ := hrel
    have hbw : Below w.heap.size w wr := by repeat (first | exact Below.refl _ _ | with_reducible assumption | (refine bl_alloc ?_ (Nat.le_refl _) _) | (refine bl_set ?_ (by dsimp only; omega) _) | (refine Below.drew ?_) | (refine bl_drewN ?_ _) | (refine bl_call ?_ (Nat.le_refl _) (by assumption)))
    by_cases hlq : q < os.length
    · obtain ⟨b, o, rfl, hB, hr⟩ := hLA (by omega)
      obtain ⟨⟨x0, x1⟩, he⟩ : ∃ e, os[q]? = some e := ⟨_, List.getElem?_eq_getElem hlq⟩
      obtain ⟨hx0, hx1, hx2, hx3⟩ := hLok _ (List.mem_of_getElem? he)
      have hin := io _ (List.mem_of_getElem? he)
      obtain ⟨c0, c1⟩ := (hr.below hbw hB) q _ he
      dsimp only at hx0 hx1 hx2 hx3 hin c0 c1
      have hd : decide (x0 + 18446744073709551616 * x1 < m) = true := by simp; omega
      clear hin hLA hr he
      go_wp2_with (go_at_call 102; refine (field_In f m _ _ _ hf (by omega) (by omega) (by omega) (by omega)).mono ?_; rintro e w6 ⟨rfl, hb6⟩)
      have hs6 := (hs'.alloc (.cells #[.int .u64 x0, .int .u64 x1] 41)).call hb6
      have hbw6 : Below w1.heap.size w1 w6 := by repeat (first | exact Below.refl _ _ | with_reducible assumption | (refine bl_alloc ?_ (Nat.le_refl _) _) | (refine bl_set ?_ (by dsimp only; omega) _) | (refine Below.drew ?_) | (refine bl_drewN ?_ _) | (refine bl_call ?_ (Nat.le_refl _) (by assumption)))
      go_roundw
      case rel => exact ⟨q + 1, by omega, by go_num, hs6, hbw6⟩
      case measure => simp [intOf]; omega
    · obtain rfl : q = os.length := by omega
      have hor := (ho0.below hbw).mono hbw.size
      have hur := (hu0.below hbw').mono hbw'.size
      obtain ⟨v10, v11, v12, v13, v14⟩ := hs'
      go_wp2_with fail
      refine (field_SubVec f m hf _ _ os _ _ hor hur HZL.out HNO.out).mono ?_
      rintro e w2 ⟨g, rfl, hB, hg, hb2⟩
      go_wp2
      go_ret2
      exact ⟨g, rfl, hB, Nat.le_trans hbw.size hg, by repeat (first | exact Below.refl _ _ | with_reducible assumption | (refine bl_alloc ?_ (Nat.le_refl _) _) | (refine bl_set ?_ (by dsimp only; omega) _) | (refine Below.drew ?_) | (refine bl_drewN ?_ _) | (refine bl_call ?_ (Nat.le_refl _) (by assumption)))⟩

end Go.Proofs.Ytgambjmjbmdciaa
