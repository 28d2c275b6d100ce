/-
  THE PROOF OF TapeSplits: for every input the law returns true, and the arguments read as they did. The walk, the plain law on sums and differences, the frame. Conditions: none.
-/
import Derived.Test.YtgambjmjbmdciaaTapeBackJoin
import Derived.Test.YtgambjmjbmdciaaTapeErr
namespace Go.Proofs.Ytgambjmjbmdciaa
open Go.RowKit Go.ChangeShapes Go.WideShapes Go.ChangeAt Fm
set_option linter.unusedVariables false
set_option maxRecDepth 100000

theorem add_back (p a b : Int) : ((a - b) % p + b) % p = a % p := by
  rw [Int.add_emod, Int.emod_emod_of_dvd _ (Int.dvd_refl p), ← Int.add_emod]
  congr 1
  omega

/-- what is left of a, and what was taken, is a -/
theorem zip_back {f m : Int} (hf : FM f m) (xs ds : List E) (h : xs.length = ds.length) (rx : ∀ e, e ∈ xs → RedE m e) (rd : ∀ e, e ∈ ds → RedE m e) : zipO (· + ·) f m (zipO (· - ·) f m xs ds) ds = xs := by
  have hl : (zipO (· - ·) f m xs ds).length = xs.length := zipS_length f m xs ds h
  apply List.ext_getElem?
  intro i
  by_cases hi : i < xs.length
  · obtain ⟨x, hx⟩ : ∃ e, xs[i]? = some e := ⟨_, List.getElem?_eq_getElem hi⟩
    obtain ⟨d, hd⟩ : ∃ e, ds[i]? = some e := ⟨_, List.getElem?_eq_getElem (by omega)⟩
    have hz : (zipO (· - ·) f m xs ds)[i]? = some (eN ((nI f x.1 x.2 - nI f d.1 d.2) % m)) := zipS_at hx hd
    have hp := hf.pos.1
    obtain ⟨e1, e2, e3⟩ := (rx x (List.mem_of_getElem? hx)).nI_eq hf
    rw [show (zipO (· + ·) f m (zipO (· - ·) f m xs ds) ds)[i]? = some (eN ((nI f (eN ((nI f x.1 x.2 - nI f d.1 d.2) % m)).1 (eN ((nI f x.1 x.2 - nI f d.1 d.2) % m)).2 + nI f d.1 d.2) % m)) from by
      conv => lhs; unfold zipO
      rw [List.getElem?_zipWith]
      rw [show (List.zipWith (fun a b => eN ((nI f a.1 a.2 - nI f b.1 b.2) % m)) xs ds)[i]? = some (eN ((nI f x.1 x.2 - nI f d.1 d.2) % m)) from hz, hd], hx]
    rw [nI_eN hf (Int.emod_nonneg _ (by omega)) (Int.emod_lt_of_pos _ hp), add_back, Int.emod_eq_of_lt e2 e3, e1]
  · have hl2 : (zipO (· + ·) f m (zipO (· - ·) f m xs ds) ds).length = xs.length := by
      rw [show zipO (· + ·) f m (zipO (· - ·) f m xs ds) ds = List.zipWith (fun a b => eN ((nI f a.1 a.2 + nI f b.1 b.2) % m)) (zipO (· - ·) f m xs ds) ds from rfl, List.length_zipWith, hl, h, Nat.min_self]
    rw [List.getElem?_eq_none (by omega), List.getElem?_eq_none (by omega)]

/-- the law's own look: is each one in? -/
def wOf (m : Int) (L : List E) : Int := if allB m L = true then 0 else 7

set_option maxHeartbeats 8000000 in
theorem walk_TapeSplits (n : Int) (vl vm vk : Value) (l mm k : List E) (w : World) (hwf : (Lit.int .u8 n).wf = true) (hl : SlE w w.heap.size vl l) (hm : SlE w w.heap.size vm mm) (hk : SlE w w.heap.size vk k) :
    Calls Try.prog 5 #[.int .u8 n, vl, vm, vk] w fun e w' => e = .returned (.bool true) ∧ Below w.heap.size w w' := by
  obtain ⟨h0, h1⟩ := byte_wf hwf
  have hl0 := hl
  have hm0 := hm
  have hk0 := hk
  obtain ⟨⟨A, ca, rfl, lA, mA, hA⟩, okl⟩ := hl
  obtain ⟨⟨B, cb, rfl, _, _, _⟩, _⟩ := hm
  obtain ⟨⟨C, cc, rfl, lC, mC, hC⟩, okk⟩ := hk
  clear hwf
  by_cases hlen : l.length ≤ 20 ∧ mm.length ≤ 20 ∧ k.length ≤ 20
  · obtain ⟨hla, hlb, hlc⟩ := hlen
    obtain ⟨md, hf0⟩ := fieldOf n h0
    obtain ⟨p0, p1, hr0⟩ := hf0.ref
    have hF0 := fun w => law03_F n w h0 h1
    obtain ⟨c, hcc⟩ : ∃ c : Int, (allB md (l ++ k) = false ∧ c = 7) ∨ (allB md (l ++ k) = true ∧ l.length ≠ k.length ∧ c = 9) ∨ (allB md (l ++ k) = true ∧ l.length = k.length ∧ c = 0) := by
      by_cases h : allB md (l ++ k) = true
      · by_cases h' : l.length = k.length
        · exact ⟨0, .inr (.inr ⟨h, h', rfl⟩)⟩
        · exact ⟨9, .inr (.inl ⟨h, h', rfl⟩)⟩
      · exact ⟨7, .inl ⟨by simpa using h, rfl⟩⟩
    have HCC := Lib.hid hcc
    clear hcc
    generalize hfn : n % 2 + 1 = f at *
    have hfb : 1 ≤ f ∧ f ≤ 2 := by omega
    obtain ⟨hfb1, hfb2⟩ := hfb
    have HFN := Lib.hid hfn
    clear hfn
    have HF := Lib.hid hF0
    clear hF0
    go_enter Try.func5, Try.ntmps5
    go_wp2_with fail
    refine (law31_Awake _).mono ?_
    rintro e w1 ⟨rfl, hb1⟩
    go_wp2_with (go_at_call 23; refine (HF.out _).mono ?_; rintro e w' ⟨rfl, rfl⟩)
    refine (law31_someI f md p0 p1 hf0 hr0 _ l l.length 1 1 rfl _ (hl0.later hb1) (by omega) (by omega)).mono ?_
    rintro e w2 ⟨g1, rfl, hB1, hg1, hb2⟩
    have rx := someE_red hf0 l l.length 1
    have lx := someE_length f md l l.length 1
    generalize someE f md l l.length 1 = X at *
    have LX := Lib.hid lx
    clear lx
    go_wp2_with fail
    have hbm : Below w.heap.size w w2 := by repeat (first | exact Below.refl _ _ | with_reducible assumption | (refine bl_alloc ?_ (Nat.le_refl _) _) | (refine bl_set ?_ (by dsimp only; omega) _) | (refine Below.drew ?_) | (refine bl_drewN ?_ _) | (refine bl_call ?_ (Nat.le_refl _) (by assumption)))
    refine (law31_someI f md p0 p1 hf0 hr0 _ mm l.length 2 2 rfl _ (hm0.later hbm) (by omega) (by omega)).mono ?_
    rintro e w3 ⟨g2, rfl, hB2, hg2, hb3⟩
    have rd := someE_red hf0 mm l.length 2
    have ld := someE_length f md mm l.length 2
    generalize someE f md mm l.length 2 = D at *
    have LD := Lib.hid ld
    clear ld
    have hXD : X.length = D.length := by rw [LX.out, LD.out]
    have hX20 : X.length ≤ 20 := by rw [LX.out]; omega
    have HX20 := Lib.hid hX20
    have sX := SlE.ofB (hB1.call hb3) (by omega) (fun e he => (rx e he).ok hf0)
    have sD := SlE.ofB hB2 (by omega) (fun e he => (rd e he).ok hf0)
    have HXD := Lib.hid hXD
    clear hXD hX20
    -- Split(in, drawn)
    go_wp2_with fail
    refine (tape_Split f md hf0 _ _ X D _ sX sD HXD.out (by have := HX20.out; omega) (allIn_red rx) (allIn_red rd)).mono ?_
    rintro e w4 ⟨u1, v1, rfl, su, sv, hb4⟩
    have su0 := su
    have sv0 := sv
    obtain ⟨⟨U, du, rfl, _, _, _⟩, _⟩ := su
    obtain ⟨⟨V, dv, rfl, _, _, _⟩, _⟩ := sv
    have hb4a : Below w4.heap.size w4 (w4.alloc (.cells #[.slice U (zipO (· - ·) f md X D).length du, .slice V D.length dv] 28)) := by repeat (first | exact Below.refl _ _ | with_reducible assumption | (refine bl_alloc ?_ (Nat.le_refl _) _) | (refine bl_set ?_ (by dsimp only; omega) _) | (refine Below.drew ?_) | (refine bl_drewN ?_ _) | (refine bl_call ?_ (Nat.le_refl _) (by assumption)))
    have q4 := V2.new w4 (.slice U (zipO (· - ·) f md X D).length du) (.slice V D.length dv) 28
    obtain ⟨c40, c41, c42, c43, c44⟩ := V2.new w4 (.slice U (zipO (· - ·) f md X D).length du) (.slice V D.length dv) 28
    have lz : (zipO (· - ·) f md X D).length = D.length := by rw [show zipO (· - ·) f md X D = zipS f md X D from rfl, zipS_length _ _ _ _ HXD.out, HXD.out]
    have LZ := Lib.hid lz
    clear lz
    have su4 := su0.later hb4a
    have sv4 := sv0.later hb4a
    -- AddVec
    go_wp2_with fail
    refine (field_AddVec f md hf0 _ _ _ D _ su4 sv4 LZ.out (by rw [LZ.out, ← HXD.out]; have := HX20.out; omega)).mono ?_
    rintro e w5 ⟨g5, rfl, hB5, hg5, hb5⟩
    rw [zip_back hf0 X D HXD.out rx rd] at hB5
    rw [zip_back hf0 X D HXD.out rx rd]
    obtain ⟨c50, c51, c52, c53, c54⟩ := q4.call hb5
    have hb35 : Below w3.heap.size w3 w5 := (hb4.trans (hb4a.mono hb4.size)).trans (hb5.mono (hb4.trans (hb4a.mono hb4.size)).size)
    have sS := SlE.ofB hB5 (by have := HX20.out; omega) (fun e he => (rx e he).ok hf0)
    have sX5 := sX.later hb35
    have sD5 := sD.later hb35
    have sv5 := sv4.later hb5
    go_wp2_with fail
    refine (ref_Same_eq _ _ X X _ sS sX5 rfl).mono ?_
    rintro e w6 ⟨rfl, hb6⟩
    obtain ⟨c60, c61, c62, c63, c64⟩ := V2.call ⟨c50, c51, c52, c53, c54⟩ hb6
    go_wp2_with fail
    refine (ref_Same_eq _ _ D D _ (sv5.later hb6) (sD5.later hb6) rfl).mono ?_
    rintro e w7 ⟨rfl, hb7⟩
    have hbw3 : Below w.heap.size w w3 := by repeat (first | exact Below.refl _ _ | with_reducible assumption | (refine bl_alloc ?_ (Nat.le_refl _) _) | (refine bl_set ?_ (by dsimp only; omega) _) | (refine Below.drew ?_) | (refine bl_drewN ?_ _) | (refine bl_call ?_ (Nat.le_refl _) (by assumption)))
    have hbw5 : Below w.heap.size w w5 := hbw3.trans (hb35.mono hbw3.size)
    have hbw6 : Below w.heap.size w w6 := hbw5.trans (hb6.mono hbw5.size)
    have hbw7 : Below w.heap.size w w7 := hbw6.trans (hb7.mono hbw6.size)
    clear hb1 hb2 hb3 hb4 hb4a hb5 hb6 hb7 hb35 hbw3 hbw5 hbw6 hbm c40 c41 c42 c43 c44 c50 c51 c52 c53 c54 c60 c61 c62 c63 c64 q4 su0 sv0 su4 sv4 sS sX5 sD5 sv5 sX sD hB1 hB2 hB5
    -- Split(l, raw)
    go_wp2_with fail
    refine (tape_Split_any f md hf0 _ _ l k _ (hl0.later hbw7) (hk0.later hbw7) (by omega) c HCC.out).mono ?_
    rintro e w8 ⟨a1, l1, c1, a2, l2, c2, rfl, huv, hb8⟩
    have HUV := Lib.hid huv
    clear huv
    have hbw8 : Below w.heap.size w w8 := hbw7.trans (hb8.mono hbw7.size)
    clear hb8 hbw7
    go_wp2_with fail
    go_loopw [102, 19] (fun i wv wr => ∃ kk : Nat, kk ≤ 2 ∧ i = .int .i64 kk ∧ wv = .int .i64 (wOf md (pre kk l k)) ∧ V2 wr w8.heap.size (.slice a1 l1 c1) (.slice a2 l2 c2) ∧ V2 wr (w8.heap.size + 1) (.slice A l.length ca) (.slice C k.length cc) ∧ Below w.heap.size w wr) (fun i _ _ => 2 - (intOf i).toNat)
    case atStart =>
      have s0 := V2.new (w8.alloc (.cells #[.slice a1 l1 c1, .slice a2 l2 c2] 28)) (.slice A l.length ca) (.slice C k.length cc) 22
      simp only [World.size_alloc] at s0
      exact ⟨0, by omega, rfl, rfl, (V2.new w8 _ _ _).alloc _, s0, by repeat (first | exact Below.refl _ _ | with_reducible assumption | (refine bl_alloc ?_ (Nat.le_refl _) _) | (refine bl_set ?_ (by dsimp only; omega) _) | (refine Below.drew ?_) | (refine bl_drewN ?_ _) | (refine bl_call ?_ (Nat.le_refl _) (by assumption)))⟩
    case round =>
      obtain ⟨kk, hkk, rfl, rfl, hv, hs, hbw⟩ := hrel
      by_cases hlt : kk < 2
      · have hL : ∃ (L : List E) (DD : Option Addr) (dc : Nat), wr.cell? ⟨w8.heap.size + 1, kk, none⟩ = some (.slice DD L.length dc) ∧ L.length ≤ dc ∧ dc ≤ 9223372036854775807 ∧ (0 < L.length → ∃ b o, DD = some ⟨b, o, none⟩ ∧ b < w.heap.size ∧ RowE w b o L) ∧ Hid (pre (kk + 1) l k = pre kk l k ++ L) ∧ (∀ e, e ∈ L → okE e) := by
          have h2 : kk = 0 ∨ kk = 1 := by omega
          rcases h2 with rfl | rfl
          · exact ⟨l, A, ca, hs.c0, lA, mA, hA, by show _ = _; simp [pre], okl⟩
          · exact ⟨k, C, cc, hs.c1, lC, mC, hC, by show _ = _; simp [pre], okk⟩
        obtain ⟨L, DD, dc, hcell, hLc, hLm, hLA, HLI, hLok⟩ := hL
        have hd2 : decide ((kk : Int) < 2) = true := by simp; omega
        generalize hP : pre kk l k = P at *
        have HP := Lib.hid hP
        clear hP
        go_wp2_with fail
        obtain ⟨wo, hwo⟩ : ∃ wo : World, wo = wr := ⟨_, rfl⟩
        subst hwo
        go_loopw [108, 19] (fun j wv wi => ∃ q : Nat, q ≤ L.length ∧ j = .int .i64 q ∧ wv = .int .i64 (wOf md (P ++ L.take q)) ∧ V2 wi w8.heap.size (.slice a1 l1 c1) (.slice a2 l2 c2) ∧ V2 wi (w8.heap.size + 1) (.slice A l.length ca) (.slice C k.length cc) ∧ Below w.heap.size w wi) (fun j _ _ => L.length - (intOf j).toNat)
        case atStart => exact ⟨0, Nat.zero_le _, rfl, by rw [List.take_zero, List.append_nil], hv, hs, hbw⟩
        case round =>
          obtain ⟨q, hq, rfl, rfl, hv', hs', hbw'⟩ := hrel
          by_cases hlq : q < L.length
          · obtain ⟨b, o, rfl, hB, hr⟩ := hLA (by omega)
            obtain ⟨⟨x0, x1⟩, he⟩ : ∃ e, L[q]? = some e := ⟨_, List.getElem?_eq_getElem hlq⟩
            obtain ⟨hx0, hx1, hx2, hx3⟩ := hLok _ (List.mem_of_getElem? he)
            obtain ⟨c0, c1⟩ := (hr.below hbw' hB) q _ he
            dsimp only at hx0 hx1 hx2 hx3 c0 c1
            have HE := Lib.hid he
            clear hLA hr he
            have hstep : wOf md (P ++ L.take (q + 1)) = if x0 + 18446744073709551616 * x1 < md then wOf md (P ++ L.take q) else 7 := by
              unfold wOf
              rw [allB_append, allB_take HE.out, allB_append]
              by_cases hin : x0 + 18446744073709551616 * x1 < md
              · simp [hin]
              · simp [hin]
            generalize wOf md (P ++ L.take q) = wv at *
            have HST := Lib.hid hstep
            clear hstep
            by_cases hin : x0 + 18446744073709551616 * x1 < md
            · have hd : decide (x0 + 18446744073709551616 * x1 < md) = true := by simp; omega
              have HIN := Lib.hid hin
              clear hin
              go_wp2_with (go_at_call 29; refine (ref_In f md _ _ _ hf0 (by omega) (by omega) (by omega) (by omega)).mono ?_; rintro e w9 ⟨rfl, hb9⟩)
              have hv9 := (hv'.alloc (.cells #[.int .u64 x0, .int .u64 x1] 41)).call hb9
              have hs9 := (hs'.alloc (.cells #[.int .u64 x0, .int .u64 x1] 41)).call hb9
              have hbw9 : Below w.heap.size w w9 := by repeat (first | exact Below.refl _ _ | with_reducible assumption | (refine bl_alloc ?_ (Nat.le_refl _) _) | (refine bl_set ?_ (by dsimp only; omega) _) | (refine Below.drew ?_) | (refine bl_drewN ?_ _) | (refine bl_call ?_ (Nat.le_refl _) (by assumption)))
              go_roundw
              case rel =>
                refine ⟨q + 1, by omega, by go_num, ?_, hv9, hs9, hbw9⟩
                rw [HST.out, if_pos HIN.out]
              case measure => simp [intOf]; omega
            · have hd : decide (x0 + 18446744073709551616 * x1 < md) = false := by simp; omega
              have HIN := Lib.hid hin
              clear hin
              go_wp2_with (go_at_call 29; refine (ref_In f md _ _ _ hf0 (by omega) (by omega) (by omega) (by omega)).mono ?_; rintro e w9 ⟨rfl, hb9⟩)
              have hv9 := (hv'.alloc (.cells #[.int .u64 x0, .int .u64 x1] 41)).call hb9
              have hs9 := (hs'.alloc (.cells #[.int .u64 x0, .int .u64 x1] 41)).call hb9
              have hbw9 : Below w.heap.size w w9 := by repeat (first | exact Below.refl _ _ | with_reducible assumption | (refine bl_alloc ?_ (Nat.le_refl _) _) | (refine bl_set ?_ (by dsimp only; omega) _) | (refine Below.drew ?_) | (refine bl_drewN ?_ _) | (refine bl_call ?_ (Nat.le_refl _) (by assumption)))
              go_roundw
              case rel =>
                refine ⟨q + 1, by omega, by go_num, ?_, hv9, hs9, hbw9⟩
                rw [HST.out, if_neg (Int.not_lt.2 HIN.out)]
              case measure => simp [intOf]; omega
          · obtain rfl : q = L.length := by omega
            go_wp2_with fail
            go_roundw
            case rel =>
              refine ⟨kk + 1, by omega, by go_num, ?_, hv', hs', hbw'⟩
              rw [HLI.out, List.take_of_length_le (Nat.le_refl _)]
            case measure => simp [intOf]; omega
      · obtain rfl : kk = 2 := by omega
        have hpre : pre 2 l k = l ++ k := by simp [pre]
        rw [hpre]
        clear hpre hs
        obtain ⟨y0, y1, y2, y3, y4⟩ := hv
        have hn3 : 3 ≤ 3 + n % 250 := by omega
        rcases HCC.out with ⟨ha, rfl⟩ | ⟨ha, hne, rfl⟩ | ⟨ha, hne, rfl⟩
        · obtain ⟨rfl, rfl⟩ := HUV.out (by omega)
          have hw7 : wOf md (l ++ k) = 7 := by unfold wOf; rw [if_neg (by simp [ha])]
          rw [hw7]
          clear ha hw7 hkk hlt
          go_wp2_with fail
          refine (tape_Split_kind _ (by omega) _ _ _ A l.length ca rfl C k.length cc rfl).mono ?_
          rintro e w10 ⟨b1, m1, d1, b2, m2, d2, rfl, _, hb10⟩
          obtain ⟨z0, z1, z2, z3, z4⟩ := V2.call ⟨y0, y1, y2, y3, y4⟩ hb10
          go_wp2
          go_ret
          exact ⟨rfl, by repeat (first | exact Below.refl _ _ | with_reducible assumption | (refine bl_alloc ?_ (Nat.le_refl _) _) | (refine bl_set ?_ (by dsimp only; omega) _) | (refine Below.drew ?_) | (refine bl_drewN ?_ _) | (refine bl_call ?_ (Nat.le_refl _) (by assumption)))⟩
        · obtain ⟨rfl, rfl⟩ := HUV.out (by omega)
          have hw7 : wOf md (l ++ k) = 0 := by unfold wOf; rw [if_pos ha]
          rw [hw7]
          have hbne : ((l.length : Int) != (k.length : Int)) = true := by simp; omega
          clear ha hw7 hkk hlt hne
          go_wp2_with fail
          refine (tape_Split_kind _ (by omega) _ _ _ A l.length ca rfl C k.length cc rfl).mono ?_
          rintro e w10 ⟨b1, m1, d1, b2, m2, d2, rfl, _, hb10⟩
          obtain ⟨z0, z1, z2, z3, z4⟩ := V2.call ⟨y0, y1, y2, y3, y4⟩ hb10
          go_wp2
          go_ret
          exact ⟨rfl, by repeat (first | exact Below.refl _ _ | with_reducible assumption | (refine bl_alloc ?_ (Nat.le_refl _) _) | (refine bl_set ?_ (by dsimp only; omega) _) | (refine Below.drew ?_) | (refine bl_drewN ?_ _) | (refine bl_call ?_ (Nat.le_refl _) (by assumption)))⟩
        · have hw7 : wOf md (l ++ k) = 0 := by unfold wOf; rw [if_pos ha]
          rw [hw7]
          have hbne : ((l.length : Int) != (k.length : Int)) = false := by simp; omega
          clear ha hw7 hkk hlt hne
          go_wp2_with fail
          refine (tape_Split_kind _ (by omega) _ _ _ A l.length ca rfl C k.length cc rfl).mono ?_
          rintro e w10 ⟨b1, m1, d1, b2, m2, d2, rfl, _, hb10⟩
          obtain ⟨z0, z1, z2, z3, z4⟩ := V2.call ⟨y0, y1, y2, y3, y4⟩ hb10
          go_wp2
          go_ret
          exact ⟨rfl, by repeat (first | exact Below.refl _ _ | with_reducible assumption | (refine bl_alloc ?_ (Nat.le_refl _) _) | (refine bl_set ?_ (by dsimp only; omega) _) | (refine Below.drew ?_) | (refine bl_drewN ?_ _) | (refine bl_call ?_ (Nat.le_refl _) (by assumption)))⟩
  · have hor : 20 < l.length ∨ (l.length ≤ 20 ∧ 20 < mm.length) ∨ (l.length ≤ 20 ∧ mm.length ≤ 20 ∧ 20 < k.length) := by omega
    clear hlen
    rcases hor with h | ⟨h, h'⟩ | ⟨h, h', h''⟩
    all_goals
      go_enter Try.func5, Try.ntmps5
      go_wp2_with fail
      refine (law31_Awake _).mono ?_
      rintro e w1 ⟨rfl, hb1⟩
      go_wp2
      go_ret
      exact ⟨rfl, by repeat (first | exact Below.refl _ _ | with_reducible assumption | (refine bl_alloc ?_ (Nat.le_refl _) _) | (refine bl_set ?_ (by dsimp only; omega) _) | (refine Below.drew ?_) | (refine bl_drewN ?_ _) | (refine bl_call ?_ (Nat.le_refl _) (by assumption)))⟩

end Go.Proofs.Ytgambjmjbmdciaa
