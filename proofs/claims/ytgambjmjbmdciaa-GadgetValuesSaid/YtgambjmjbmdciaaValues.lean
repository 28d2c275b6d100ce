/-
  WALK: tallymanlaw09.GadgetValues.
-/
import Derived.Test.YtgambjmjbmdciaaBits
import Derived.Test.YtgambjmjbmdciaaReg2
import Derived.Test.YtgambjmjbmdciaaRegD
namespace Go.Proofs.Ytgambjmjbmdciaa
open Go.RowKit Fm
set_option linter.unusedVariables false
set_option maxRecDepth 100000

/-- what an argument's element at a place is, in a field; 0 where there is none -/
def pickK (f : Nat) (l : List E) (j : Nat) : Fin (Pm f) := if l.length = 0 then 0 else kE f (l.getD (j % l.length) (0, 0))
def picks (f : Nat) (l : List E) (n : Nat) : KL f := (List.range n).map (pickK f l)
theorem picks_length (f : Nat) (l : List E) (n : Nat) : (picks f l n).length = n := by unfold picks; rw [List.length_map, List.length_range]
theorem picks_at (f : Nat) (l : List E) (n k : Nat) (hk : k < n) : (picks f l n)[k]? = some (pickK f l k) := by
  unfold picks
  rw [List.getElem?_map, List.getElem?_range hk]
  rfl

theorem picks_none {f : Nat} {l : List E} (h : l.length = 0) (j : Nat) : pickK f l j = 0 := by unfold pickK; rw [if_pos h]
theorem picks_some {f : Nat} {l : List E} (h : ¬ l.length = 0) {j : Nat} {e : E} (he : l[j % l.length]? = some e) : pickK f l j = kE f e := by
  unfold pickK
  rw [if_neg h, List.getD_eq_getElem?_getD, he]
  rfl
theorem fill_next {α : Type} (zs : List α) (z : α) (n k : Nat) (hk : k < n) (he : zs[k]? = some z) : zs.take k ++ List.replicate (n - k) z = zs.take (k + 1) ++ List.replicate (n - (k + 1)) z := by
  rw [List.take_add_one, he, show n - k = (n - (k + 1)) + 1 from by omega, List.replicate_succ]
  simp

theorem Gad.arity_le {f : Nat} {w : World} {B : Nat} {k : Int} {sl : Value} {n : Int} {g : Gad f} (h : RepG w B k sl n g) : 1 ≤ g.arity ∧ g.arity ≤ 32 := by
  cases g with
  | mul => exact ⟨by show 1 ≤ 2; omega, by show 2 ≤ 32; omega⟩
  | eval cs => exact ⟨by show 1 ≤ 1; omega, by show 1 ≤ 32; omega⟩
  | par m =>
    obtain ⟨_, _, _, h1, h2⟩ := h
    exact ⟨by show 1 ≤ 2 * m; omega, by show 2 * m ≤ 32; omega⟩

set_option maxHeartbeats 8000000 in
theorem walk_GadgetValues (n kind many more : Int) (vs vl : Value) (xs l : List E) (w : World) (hn0 : 0 ≤ n) (hn1 : n ≤ 255) (hk0 : 0 ≤ kind) (hk1 : kind ≤ 255) (hm0 : 0 ≤ many) (hm1 : many ≤ 255) (hp0 : 0 ≤ more) (hp1 : more ≤ 255)
    (hs : SlE w w.heap.size vs xs) (hl : SlE w w.heap.size vl l) :
    Calls Try.prog 6 #[.int .u8 n, .agg #[.int .u8 kind, vs, .int .u8 many], vl, .int .u8 more] w fun e w' => e = .returned (.bool true) ∧ Below w.heap.size w w' := by
  obtain ⟨f, hf, hF⟩ := lawField n hn0 hn1
  have HF := Lib.hid hF
  have HA := Lib.hid law09_Awake
  have hsl : ∃ (A : Option Addr) (b : Nat), vs = .slice A xs.length b := by
    obtain ⟨⟨A, c, h, _⟩, _⟩ := hs
    exact ⟨_, _, h⟩
  obtain ⟨A', c', rfl⟩ := hsl
  have hs0 := Lib.hid hs
  obtain ⟨⟨A, c, rfl, hc, hcm, hAA⟩, hok⟩ := hl
  have hfb0 : (1 : Int) ≤ (f : Int) := by rcases hf.or with rfl | rfl <;> omega
  have hfb1 : (f : Int) ≤ 2 := by rcases hf.or with rfl | rfl <;> omega
  have heq := eql_elem
  clear hF hs
  go_enter Try.func6, Try.ntmps6
  go_upto_region 1 with fail
  have hv := Vs.new w [.int .u8 kind, .slice A' xs.length c', .int .u8 many] #[.int .u8 kind, .slice A' xs.length c', .int .u8 many] 44 rfl
  have hb00 : Below w.heap.size w (w.alloc (.cells #[.int .u8 kind, .slice A' xs.length c', .int .u8 many] 44)) := by repeat (first | exact Below.refl _ _ | with_reducible assumption | (refine bl_alloc ?_ (Nat.le_refl _) _) | (refine bl_set ?_ (by dsimp only; omega) _) | (refine Below.drew ?_) | (refine bl_drewN ?_ _) | (refine bl_call ?_ (Nat.le_refl _) (by assumption)))
  generalize w.alloc (.cells #[.int .u8 kind, .slice A' xs.length c', .int .u8 many] 44) = w1 at hv hb00 ⊢
  go_upto_region 4 with (first
    | (go_at_call 30; refine (HA.out _).mono ?_; rintro e w2 ⟨rfl, hb2⟩; replace hv := hv.call hb2; replace hb00 := bl_call hb00 (Nat.le_refl _) hb2)
    | (go_at_call 23; refine (HF.out _).mono ?_; rintro e w3 ⟨rfl, rfl⟩))
  obtain ⟨c0, c1, c2, c3, c4, c5, c6⟩ := hv.get3
  have HG := Lib.hid (law09_Gadget hf kind many hk0 hk1 hm0 hm1 _ xs w2 (hs0.out.later hb00))
  go_wp2_with fail
  refine HG.out.mono ?_
  rintro e w4 ⟨g, k, sl, m, rfl, hg, hb4⟩
  have hsl : ∃ (A : Option Addr) (a b : Nat), sl = .slice A a b := by
    cases g with
    | mul => exact ⟨_, _, _, hg.2.1⟩
    | par m => exact ⟨_, _, _, hg.2.1⟩
    | eval cs =>
      obtain ⟨A, c, h, _⟩ := hg.2.2.1
      exact ⟨_, _, _, h⟩
  obtain ⟨A2, l2, c2', rfl⟩ := hsl
  replace hb00 := bl_call hb00 (Nat.le_refl _) hb4
  clear HG HA HF c0 c1 c2 c3 c4 c5 c6 hv hs0 hb4
  go_upto_region 5 with fail
  have hz4 := hb00.size
  have hx := Vs.new w4 [.int .u8 k, .slice A2 l2 c2', .int .i64 m] #[.int .u8 k, .slice A2 l2 c2', .int .i64 m] 47 rfl
  have hbA : Below w4.heap.size w4 (w4.alloc (.cells #[.int .u8 k, .slice A2 l2 c2', .int .i64 m] 47)) := by repeat (first | exact Below.refl _ _ | with_reducible assumption | (refine bl_alloc ?_ (Nat.le_refl _) _) | (refine bl_set ?_ (by dsimp only; omega) _) | (refine Below.drew ?_) | (refine bl_drewN ?_ _) | (refine bl_call ?_ (Nat.le_refl _) (by assumption)))
  replace hg := hg.later hbA
  replace hb00 := bl_call hb00 (Nat.le_refl _) hbA
  clear hbA
  generalize w4.alloc (.cells #[.int .u8 k, .slice A2 l2 c2', .int .i64 m] 47) = w5 at hx hg hb00 ⊢
  obtain ⟨q, hq⟩ : ∃ q, g.arity = q := ⟨_, rfl⟩
  have hqb := Gad.arity_le hg
  rw [hq] at hqb
  obtain ⟨hq1, hq32⟩ := hqb
  have HAR : Hid (∀ wz, Below w5.heap.size w5 wz → Calls Try.prog 32 #[.agg #[.int .u8 k, .slice A2 l2 c2', .int .i64 m]] wz fun e w' => e = .returned (.int .i64 (q : Int)) ∧ Below wz.heap.size wz w') := by
    intro wz hb
    have h := gadget_Arity wz w5.heap.size g k _ m (hg.below hb)
    rwa [hq] at h
  have HQ := Lib.hid hq
  clear hq
  have hmk := make_elem q (by omega)
  obtain ⟨x0, x1, x2, x3, x4, x5, x6⟩ := hx.get3
  go_upto_region 6 with (go_at_call 32; refine (HAR.out _ (Below.refl _ _)).mono ?_; rintro e w6 ⟨rfl, hb6⟩)
  have hzl : (esK (picks f l q)).length = q := by rw [esK_length, picks_length]
  have hB : BlkE (w6.alloc (.cells (cellsE (List.replicate q (0, 0))).toArray 41)) w6.heap.size (List.replicate q (0, 0)) := heap_alloc_new w6 _
  have hbA : Below w5.heap.size w5 (w6.alloc (.cells (cellsE (List.replicate q (0, 0))).toArray 41)) := by repeat (first | exact Below.refl _ _ | with_reducible assumption | (refine bl_alloc ?_ (Nat.le_refl _) _) | (refine bl_set ?_ (by dsimp only; omega) _) | (refine Below.drew ?_) | (refine bl_drewN ?_ _) | (refine bl_call ?_ (Nat.le_refl _) (by assumption)))
  have hg6 : w5.heap.size ≤ w6.heap.size := hb6.size
  generalize hgI : w6.heap.size = gI at *
  have hx5 : w4.heap.size < w5.heap.size := hx.lt
  generalize w6.alloc (.cells (cellsE (List.replicate q (0, 0))).toArray 41) = w7 at hB hbA ⊢
  clear hb6 hgI x0 x1 x2 x3 x4 x5 x6 HAR hmk
  go_wp2_with fail
  have HZL := Lib.hid hzl
  clear hzl
  go_loopw [37] (fun i wr => ∃ j : Nat, j ≤ q ∧ i = .int .i64 j ∧ BlkE wr gI ((esK (picks f l q)).take j ++ List.replicate (q - j) (0, 0)) ∧ Below w5.heap.size w5 wr) (fun i _ => q - (intOf i).toNat)
  case atStart => exact ⟨0, Nat.zero_le _, rfl, hB, hbA⟩
  case round =>
    clear hB hbA
    obtain ⟨j, hj, rfl, hB, hbA⟩ := hrel
    have hbw : Below w.heap.size w wr := hb00.trans (hbA.mono hb00.size)
    by_cases hlt : j < q
    · have hez := esK_at (picks_at f l q j hlt)
      by_cases hl0 : l.length = 0
      · have hd : decide ((0 : Int) < (l.length : Int)) = false := decide_eq_false (by omega)
        rw [picks_none hl0, eK_zero] at hez
        rw [fill_next _ _ _ _ hlt hez] at hB
        have HB := Lib.hid hB
        clear hez hB hAA
        go_wp2
        go_roundw
        case rel => exact ⟨j + 1, by omega, by go_num, HB.out, by repeat (first | exact Below.refl _ _ | with_reducible assumption | (refine bl_alloc ?_ (Nat.le_refl _) _) | (refine bl_set ?_ (by dsimp only; omega) _) | (refine Below.drew ?_) | (refine bl_drewN ?_ _) | (refine bl_call ?_ (Nat.le_refl _) (by assumption)))⟩
        case measure => simp [intOf]; omega
      · have hd : decide ((0 : Int) < (l.length : Int)) = true := decide_eq_true (by omega)
        obtain ⟨b, o, rfl, hBl, hr⟩ := hAA (by omega)
        have hjm : j % l.length < l.length := Nat.mod_lt _ (by omega)
        obtain ⟨⟨e0, e1⟩, he⟩ : ∃ e, l[j % l.length]? = some e := ⟨_, List.getElem?_eq_getElem hjm⟩
        obtain ⟨h0, h1, h2, h3⟩ := hok _ (List.mem_of_getElem? he)
        obtain ⟨c0, c1⟩ := (hr.below hbw hBl) _ _ he
        dsimp only at h0 h1 h2 h3 c0 c1
        rw [picks_some hl0 he] at hez
        have HEZ := Lib.hid hez
        have HO := Lib.hid (fun wz => ref_OfL hf e0 e1 wz h0 h1 h2 h3)
        have hzk : ∃ u v : Value, wr.cell? ⟨gI, j * 2, none⟩ = some u ∧ wr.cell? ⟨gI, j * 2 + 1, none⟩ = some v := by
          have hlen : j < ((esK (picks f l q)).take j ++ List.replicate (q - j) ((0, 0) : E)).length := by
            rw [List.length_append, List.length_take, List.length_replicate, HZL.out]
            omega
          obtain ⟨e1, e2⟩ := hB.row j _ (List.getElem?_eq_getElem hlen)
          exact ⟨_, _, e1, e2⟩
        obtain ⟨u, v, z0, z1⟩ := hzk
        have fz0 := hB.frozen (j * 2)
        have fz1 := hB.frozen (j * 2 + 1)
        have HBH := Lib.hid hB
        have hjn : 0 ≤ (j : Int) % (l.length : Int) := Int.emod_nonneg _ (by omega)
        have hjl : (j : Int) % (l.length : Int) < (l.length : Int) := Int.emod_lt_of_pos _ (by omega)
        have hjt : ((j : Int) % (l.length : Int)).toNat = j % l.length := by rw [← Int.natCast_emod, Int.toNat_natCast]
        clear he hr hAA hez hB
        go_wp2_with (go_at_call 33; refine (HO.out _).mono ?_; rintro e w8 ⟨rfl, hb8⟩; have z60 := cell_call z0 hb8; have z61 := cell_call z1 hb8; have g60 := frozen_call (lt_of_cell z0) fz0 hb8; have g61 := frozen_call (lt_of_cell z1) fz1 hb8)
        go_roundw
        case rel =>
          have h := (HBH.out.call hb8).set j (lo (kL f e0 e1)) (hi (kL f e0 e1))
          rw [show ((lo (kL f e0 e1), hi (kL f e0 e1)) : E) = eK (kE f (e0, e1)) from rfl, fill_step _ _ _ j _ HZL.out hlt HEZ.out] at h
          exact ⟨j + 1, by omega, by go_num, h, by repeat (first | exact Below.refl _ _ | with_reducible assumption | (refine bl_alloc ?_ (Nat.le_refl _) _) | (refine bl_set ?_ (by dsimp only; omega) _) | (refine Below.drew ?_) | (refine bl_drewN ?_ _) | (refine bl_call ?_ (Nat.le_refl _) (by assumption)))⟩
        case measure => simp [intOf]; omega
    · obtain rfl : j = q := by omega
      have hIn : BlkE wr gI (esK (picks f l j)) := by
        have h := hB
        rwa [List.take_of_length_le (by rw [HZL.out]; exact Nat.le_refl _), Nat.sub_self, List.replicate_zero, List.append_nil] at h
      have hinl := picks_length f l j
      generalize picks f l j = zs at *
      clear hB HZL hAA hlt hj
      go_upto_region 12 with fail
      replace hx := hx.belowB hbA hx5
      replace hg := (hg.below hbA).mono hbA.size
      have hgIw : gI < wr.heap.size := hIn.lt
      have hS := hIn.slK (by omega) hIn.lt
      rw [hinl] at hS
      have HO := Lib.hid (gadget_Of hf wr g k _ m hg _ zs hS (by rw [hinl, HQ.out]))
      obtain ⟨y, hyv⟩ : ∃ y, gval g zs = y := ⟨_, rfl⟩
      rw [hyv] at HO
      have HY := Lib.hid hyv
      clear hyv hS hb00 hbA
      obtain ⟨x0, x1, x2, x3, x4, x5, x6⟩ := hx.get3
      go_wp2_with fail
      refine HO.out.mono ?_
      rintro e w8 ⟨rfl, hb8⟩
      replace hx := hx.call hb8
      replace hg := hg.later hb8
      replace hIn := hIn.call hb8
      replace hbw := bl_call hbw (Nat.le_refl _) hb8
      clear HO hb8 x0 x1 x2 x3 x4 x5 x6 hgIw
      go_upto_region 13 with fail
      have hy := V2.new w8 (.int .u64 (lo y)) (.int .u64 (hi y)) 41
      have hbA : Below w8.heap.size w8 (w8.alloc (.cells #[.int .u64 (lo y), .int .u64 (hi y)] 41)) := by repeat (first | exact Below.refl _ _ | with_reducible assumption | (refine bl_alloc ?_ (Nat.le_refl _) _) | (refine bl_set ?_ (by dsimp only; omega) _) | (refine Below.drew ?_) | (refine bl_drewN ?_ _) | (refine bl_call ?_ (Nat.le_refl _) (by assumption)))
      replace hx := hx.call hbA
      replace hg := hg.later hbA
      replace hIn := hIn.call hbA
      replace hbw := bl_call hbw (Nat.le_refl _) hbA
      clear hbA
      generalize w8.alloc (.cells #[.int .u64 (lo y), .int .u64 (hi y)] 41) = w9 at hx hg hIn hbw hy ⊢
      obtain ⟨M, hM, hM2⟩ : ∃ M : Nat, more.tmod 3 = (M : Int) ∧ M ≤ 2 := ⟨(more % 3).toNat, by rw [Int.tmod_eq_emod_of_nonneg hp0]; omega, by omega⟩
      obtain ⟨N, hN, hNne, hN40⟩ : ∃ N : Nat, (j : Int) + 1 + (M : Int) = (N : Int) ∧ N ≠ j ∧ N ≤ 40 := ⟨j + 1 + M, by omega, by omega, by omega⟩
      have hw1 : IntKind.i64.wrap ((j : Int) + 1) = (j : Int) + 1 := IntWalk.i64_in _ (by omega)
      have hw0 : IntKind.i64.wrap (M : Int) = (M : Int) := IntWalk.i64_in _ (by omega)
      have hw2' : IntKind.i64.wrap ((j : Int) + 1 + (M : Int)) = (N : Int) := by rw [hN]; exact IntWalk.i64_in _ (by omega)
      clear hN
      have hmk := make_elem N (by omega)
      have HAR : Hid (∀ wz, Below w9.heap.size w9 wz → Calls Try.prog 32 #[.agg #[.int .u8 k, .slice A2 l2 c2', .int .i64 m]] wz fun e w' => e = .returned (.int .i64 (j : Int)) ∧ Below wz.heap.size wz w') := by
        intro wz hb
        have h := gadget_Arity wz w9.heap.size g k _ m (hg.below hb)
        rwa [HQ.out] at h
      have HSZ : Hid (∀ wz, Below w9.heap.size w9 wz → ∀ A len c, len ≠ j → Calls Try.prog 34 #[.agg #[.int .u8 k, .slice A2 l2 c2', .int .i64 m], .int .u8 f, .slice A len c] wz (fun e w' => e = .returned (.tuple #[.agg #[.int .u64 0, .int .u64 0], .int .i64 9]) ∧ Below wz.heap.size wz w')) := by
        intro wz hb A len c hne
        exact gadget_Of_size hf wz g k _ m (hg.later hb) A len c (by rw [HQ.out]; exact hne)
      obtain ⟨x0, x1, x2, x3, x4, x5, x6⟩ := hx.get3
      go_cut [17] (fun cc wx => cc = .int .i64 9 ∧ Below w9.heap.size w9 wx)
      case first =>
        refine region_G (n := 16) (m := 17) (f := 16) (by kernel_rfl) (by kernel_rfl) rfl ?_
        refine WpG.takeD 0 (some 64) (v := ?_) rfl rfl (by kernel_rfl) (fun _ _ _ h => h) (.val rfl (fun wz hwz => ?_)) ?_
        rotate_left
        · (obtain ⟨hcz, hfz⟩ := bcell (hwz); go_simp; try (with_reducible rfl))
        (simp only [Act.put]); (try simp only [List.setIfInBounds_toArray]); (try simp only [List.set_cons_succ]); (try simp only [List.set_cons_zero])
        refine WpG.takeD 1 (some 65) (v := ?_) rfl rfl (by kernel_rfl) (fun _ _ _ h => h) (.val rfl (fun wz hwz => ?_)) ?_
        rotate_left
        · go_simp; try (with_reducible rfl)
        (simp only [Act.put]); (try simp only [List.setIfInBounds_toArray]); (try simp only [List.set_cons_succ]); (try simp only [List.set_cons_zero])
        refine WpG.takeD 2 (some 66) (v := ?_) rfl rfl (by kernel_rfl) (fun _ _ _ h => h) (.val rfl (fun wz hwz => ?_)) ?_
        rotate_left
        · (obtain ⟨hcz, hfz⟩ := bcell (hwz); go_simp; try (with_reducible rfl))
        (simp only [Act.put]); (try simp only [List.setIfInBounds_toArray]); (try simp only [List.set_cons_succ]); (try simp only [List.set_cons_zero])
        refine WpG.takeD 3 (some 67) rfl rfl (by kernel_rfl) (fun _ _ _ h => h) (.call rfl (fun wz hwz => HAR.out wz (hwz)) (fun wz hwz => ?_)) ?_
        · go_simp; try (with_reducible rfl)
        (simp only [Act.put]); (try simp only [List.setIfInBounds_toArray]); (try simp only [List.set_cons_succ]); (try simp only [List.set_cons_zero])
        refine WpG.takeD 4 (some 68) (v := ?_) rfl rfl (by kernel_rfl) (fun _ _ _ h => h) (.val rfl (fun wz hwz => ?_)) ?_
        rotate_left
        · go_simp; try (with_reducible rfl)
        (simp only [Act.put]); (try simp only [List.setIfInBounds_toArray]); (try simp only [List.set_cons_succ]); (try simp only [List.set_cons_zero])
        refine WpG.takeD 5 (some 69) (v := ?_) rfl rfl (by kernel_rfl) (fun _ _ _ h => h) (.val rfl (fun wz hwz => ?_)) ?_
        rotate_left
        · go_simp; try (with_reducible rfl)
        (simp only [Act.put]); (try simp only [List.setIfInBounds_toArray]); (try simp only [List.set_cons_succ]); (try simp only [List.set_cons_zero])
        refine WpG.takeD 6 (some 70) (v := ?_) rfl rfl (by kernel_rfl) (fun _ _ _ h => h) (.val rfl (fun wz hwz => ?_)) ?_
        rotate_left
        · go_simp; try (with_reducible rfl)
        (simp only [Act.put]); (try simp only [List.setIfInBounds_toArray]); (try simp only [List.set_cons_succ]); (try simp only [List.set_cons_zero])
        refine WpG.takeD 7 (some 71) (v := ?_) rfl rfl (by kernel_rfl) (fun _ _ _ h => h) (.val rfl (fun wz hwz => ?_)) ?_
        rotate_left
        · go_simp; try (with_reducible rfl)
        (simp only [Act.put]); (try simp only [List.setIfInBounds_toArray]); (try simp only [List.set_cons_succ]); (try simp only [List.set_cons_zero])
        refine WpG.takeD 8 (some 72) (v := ?_) rfl rfl (by kernel_rfl) (fun _ _ _ h => h) (.val rfl (fun wz hwz => ?_)) ?_
        rotate_left
        · go_simp; try (with_reducible rfl)
        (simp only [Act.put]); (try simp only [List.setIfInBounds_toArray]); (try simp only [List.set_cons_succ]); (try simp only [List.set_cons_zero])
        refine WpG.twoD 9 14 (some 73) (some 16) rfl rfl rfl rfl (by kernel_rfl) (fun b : Nat => Value.slice (some ⟨b, 0, none⟩) N N) (fun b _ => w9.heap.size ≤ b ∧ True) (fun _ _ _ h _ => h) (Fresh.slice N N (cellsE (List.replicate N (0, 0))) 41 rfl (fun wz hwz => (hwz).size) (fun wz hwz => by go_simp; try (with_reducible rfl)) (R := fun _ _ => True) (fun _ _ => trivial)) (fun b : Nat => Value.pointer (some ⟨b, 0, none⟩)) (fun b w => w9.heap.size ≤ b ∧ ∃ u v, V2 w b u v) (fun _ _ _ h hb => ⟨h.1, let ⟨u, v, hV⟩ := h.2; ⟨u, v, hV.call hb⟩⟩) (Fresh.var [.int .u64 0, .int .u64 0] 41 rfl (fun wz hwz => (hwz).size) (fun wz hwz => by go_simp; try (with_reducible rfl)) (R := fun b w => ∃ u v, V2 w b u v) (fun wz hwz => ⟨_, _, V2.new wz _ _ _⟩)) (fun sb w0 hw0 hR0 => ?rg13a) (fun bb w0' hw0' hR0' => ?rg13b)
        case' rg13a =>
          (simp only [Act.put]); (try simp only [List.setIfInBounds_toArray]); (try simp only [List.set_cons_succ]); (try simp only [List.set_cons_zero])
          refine WpG.takeD 10 (some 74) rfl rfl (by kernel_rfl) (fun _ _ _ h => h) (.call rfl (fun wz hwz => HSZ.out wz (hwz.1) (some ⟨sb, 0, none⟩) N N hNne) (fun wz hwz => ?_)) ?_
          · go_simp; try (with_reducible rfl)
          (simp only [Act.put]); (try simp only [List.setIfInBounds_toArray]); (try simp only [List.set_cons_succ]); (try simp only [List.set_cons_zero])
          refine WpG.takeD 11 (some 63) (v := ?_) rfl rfl (by kernel_rfl) (fun _ _ _ h => h) (.val rfl (fun wz hwz => ?_)) ?_
          rotate_left
          · go_simp; try (with_reducible rfl)
          (simp only [Act.put]); (try simp only [List.setIfInBounds_toArray]); (try simp only [List.set_cons_succ]); (try simp only [List.set_cons_zero])
          refine WpG.takeD 12 (some 75) (v := ?_) rfl rfl (by kernel_rfl) (fun _ _ _ h => h) (.val rfl (fun wz hwz => ?_)) ?_
          rotate_left
          · go_simp; try (with_reducible rfl)
          (simp only [Act.put]); (try simp only [List.setIfInBounds_toArray]); (try simp only [List.set_cons_succ]); (try simp only [List.set_cons_zero])
          refine WpG.takeD 13 (some 76) (v := ?_) rfl rfl (by kernel_rfl) (fun _ _ _ h => h) (.val rfl (fun wz hwz => ?_)) ?_
          rotate_left
          · go_simp; try (with_reducible rfl)
          (simp only [Act.put]); (try simp only [List.setIfInBounds_toArray]); (try simp only [List.set_cons_succ]); (try simp only [List.set_cons_zero])
          refine WpG.oneD 14 (some 16) rfl rfl (by kernel_rfl) (fun b : Nat => Value.pointer (some ⟨b, 0, none⟩)) (fun b w => w9.heap.size ≤ b ∧ ∃ u v, V2 w b u v) (fun _ _ _ h hb => ⟨h.1, let ⟨u, v, hV⟩ := h.2; ⟨u, v, hV.call hb⟩⟩) (Fresh.var [.int .u64 0, .int .u64 0] 41 rfl (fun wz hwz => (hwz.1).size) (fun wz hwz => by go_simp; try (with_reducible rfl)) (R := fun b w => ∃ u v, V2 w b u v) (fun wz hwz => ⟨_, _, V2.new wz _ _ _⟩)) (fun bb w0' hw0' hR0' => ?_)
          (simp only [Act.put]); (try simp only [List.setIfInBounds_toArray]); (try simp only [List.set_cons_succ]); (try simp only [List.set_cons_zero])
          refine WpG.oneSkip 15 none rfl rfl (by kernel_rfl) (fun _ => True) (fun _ _ _ _ => trivial) rfl (fun wz hwz => ?_) ?_
          · obtain ⟨hge, u, v, hV⟩ := hwz.2; obtain ⟨q0, q1, q2, q3, q4⟩ := V2.mk hV.c0 hV.c1 hV.f0 hV.f1 hV.lt; exact ⟨(wz.setCell ⟨bb, 0, none⟩ (.int .u64 0)).setCell ⟨bb, 1, none⟩ (.int .u64 0), by go_simp; try (with_reducible rfl), ⟨⟨bl_st (hwz.1.1) hge _ _, hwz.1.2⟩, ⟨hge, _, _, V2.set hV _ _⟩⟩, trivial⟩
          (simp only [Act.put]); (try simp only [List.setIfInBounds_toArray]); (try simp only [List.set_cons_succ]); (try simp only [List.set_cons_zero])
          refine WpG.done (by kernel_rfl) (fun w12 hS => ?_)
          (try simp only [List.drop_succ_cons]); (try simp only [List.drop_zero]); (try simp only [Nat.reduceSub]); (try simp only [List.take_succ_cons]); (try simp only [List.take_zero])
        case' rg13b =>
          (simp only [Act.put]); (try simp only [List.setIfInBounds_toArray]); (try simp only [List.set_cons_succ]); (try simp only [List.set_cons_zero])
          refine WpG.oneD 9 (some 73) rfl rfl (by kernel_rfl) (fun b : Nat => Value.slice (some ⟨b, 0, none⟩) N N) (fun b _ => w9.heap.size ≤ b ∧ True) (fun _ _ _ h _ => h) (Fresh.slice N N (cellsE (List.replicate N (0, 0))) 41 rfl (fun wz hwz => (hwz.1).size) (fun wz hwz => by go_simp; try (with_reducible rfl)) (R := fun _ _ => True) (fun _ _ => trivial)) (fun sb w0 hw0 hR0 => ?_)
          (simp only [Act.put]); (try simp only [List.setIfInBounds_toArray]); (try simp only [List.set_cons_succ]); (try simp only [List.set_cons_zero])
          refine WpG.takeD 10 (some 74) rfl rfl (by kernel_rfl) (fun _ _ _ h => h) (.call rfl (fun wz hwz => HSZ.out wz (hwz.1.1) (some ⟨sb, 0, none⟩) N N hNne) (fun wz hwz => ?_)) ?_
          · go_simp; try (with_reducible rfl)
          (simp only [Act.put]); (try simp only [List.setIfInBounds_toArray]); (try simp only [List.set_cons_succ]); (try simp only [List.set_cons_zero])
          refine WpG.takeD 11 (some 63) (v := ?_) rfl rfl (by kernel_rfl) (fun _ _ _ h => h) (.val rfl (fun wz hwz => ?_)) ?_
          rotate_left
          · go_simp; try (with_reducible rfl)
          (simp only [Act.put]); (try simp only [List.setIfInBounds_toArray]); (try simp only [List.set_cons_succ]); (try simp only [List.set_cons_zero])
          refine WpG.takeD 12 (some 75) (v := ?_) rfl rfl (by kernel_rfl) (fun _ _ _ h => h) (.val rfl (fun wz hwz => ?_)) ?_
          rotate_left
          · go_simp; try (with_reducible rfl)
          (simp only [Act.put]); (try simp only [List.setIfInBounds_toArray]); (try simp only [List.set_cons_succ]); (try simp only [List.set_cons_zero])
          refine WpG.takeD 13 (some 76) (v := ?_) rfl rfl (by kernel_rfl) (fun _ _ _ h => h) (.val rfl (fun wz hwz => ?_)) ?_
          rotate_left
          · go_simp; try (with_reducible rfl)
          (simp only [Act.put]); (try simp only [List.setIfInBounds_toArray]); (try simp only [List.set_cons_succ]); (try simp only [List.set_cons_zero])
          refine WpG.oneSkip 15 none rfl rfl (by kernel_rfl) (fun _ => True) (fun _ _ _ _ => trivial) rfl (fun wz hwz => ?_) ?_
          · obtain ⟨hge, u, v, hV⟩ := hwz.1.2; obtain ⟨q0, q1, q2, q3, q4⟩ := V2.mk hV.c0 hV.c1 hV.f0 hV.f1 hV.lt; exact ⟨(wz.setCell ⟨bb, 0, none⟩ (.int .u64 0)).setCell ⟨bb, 1, none⟩ (.int .u64 0), by go_simp; try (with_reducible rfl), ⟨⟨bl_st (hwz.1.1) hge _ _, ⟨hge, _, _, V2.set hV _ _⟩⟩, hwz.2⟩, trivial⟩
          (simp only [Act.put]); (try simp only [List.setIfInBounds_toArray]); (try simp only [List.set_cons_succ]); (try simp only [List.set_cons_zero])
          refine WpG.done (by kernel_rfl) (fun w12 hS => ?_)
          (try simp only [List.drop_succ_cons]); (try simp only [List.drop_zero]); (try simp only [Nat.reduceSub]); (try simp only [List.take_succ_cons]); (try simp only [List.take_zero])
        all_goals
          go_wp2_with fail
          go_meet
          exact ⟨rfl, hS.1.1.1⟩
      case rest =>
        obtain ⟨rfl, hbc⟩ := hcut
        replace hbw := bl_call hbw (Nat.le_refl _) hbc
        replace hx := hx.call hbc
        replace hg := hg.later hbc
        replace hIn := hIn.call hbc
        replace hy := hy.call hbc
        clear HAR HSZ hbc hw0 hw1 hw2' hmk hM hM2 hNne hN40 x0 x1 x2 x3 x4 x5 x6
        generalize wc = wd at hx hg hIn hbw hy ⊢
        have hw1 : IntKind.i64.wrap ((j : Int) - 1) = (j : Int) - 1 := IntWalk.i64_in _ (by omega)
        have hj0 : (0 : Int) ≤ (j : Int) - 1 := by omega
        have hj1 : ((j : Int) - 1).toNat = j - 1 := by omega
        have hj2 : (j : Int) - 1 ≤ (j : Int) := by omega
        have hj3 : j - 1 ≤ j := by omega
        have hj4 : j - 1 ≠ j := by omega
        have hj5 : (1 : Int) ≤ (j : Int) := by omega
        have HSZ : Hid (∀ wz, Below wd.heap.size wd wz → Calls Try.prog 34 #[.agg #[.int .u8 k, .slice A2 l2 c2', .int .i64 m], .int .u8 f, .slice (some ⟨gI, 0, none⟩) (j - 1) j] wz (fun e w' => e = .returned (.tuple #[.agg #[.int .u64 0, .int .u64 0], .int .i64 9]) ∧ Below wz.heap.size wz w')) := by
          intro wz hb
          exact gadget_Of_size hf wz g k _ m (hg.later hb) _ _ _ (by rw [HQ.out]; exact hj4)
        obtain ⟨x0, x1, x2, x3, x4, x5, x6⟩ := hx.get3
        go_upto_region 14 with fail
        go_cut [19] (fun cc wx => cc = .int .i64 9 ∧ Below wd.heap.size wd wx)
        case first =>
          refine region_G (n := 13) (m := 14) (f := 13) (by kernel_rfl) (by kernel_rfl) rfl ?_
          refine WpG.takeD 0 (some 78) (v := ?_) rfl rfl (by kernel_rfl) (fun _ _ _ h => h) (.val rfl (fun wz hwz => ?_)) ?_
          rotate_left
          · (obtain ⟨hcz, hfz⟩ := bcell (hwz); go_simp; try (with_reducible rfl))
          (simp only [Act.put]); (try simp only [List.setIfInBounds_toArray]); (try simp only [List.set_cons_succ]); (try simp only [List.set_cons_zero])
          refine WpG.takeD 1 (some 79) (v := ?_) rfl rfl (by kernel_rfl) (fun _ _ _ h => h) (.val rfl (fun wz hwz => ?_)) ?_
          rotate_left
          · go_simp; try (with_reducible rfl)
          (simp only [Act.put]); (try simp only [List.setIfInBounds_toArray]); (try simp only [List.set_cons_succ]); (try simp only [List.set_cons_zero])
          refine WpG.takeD 2 (some 80) (v := ?_) rfl rfl (by kernel_rfl) (fun _ _ _ h => h) (.val rfl (fun wz hwz => ?_)) ?_
          rotate_left
          · go_simp; try (with_reducible rfl)
          (simp only [Act.put]); (try simp only [List.setIfInBounds_toArray]); (try simp only [List.set_cons_succ]); (try simp only [List.set_cons_zero])
          refine WpG.takeD 3 (some 81) (v := ?_) rfl rfl (by kernel_rfl) (fun _ _ _ h => h) (.val rfl (fun wz hwz => ?_)) ?_
          rotate_left
          · go_simp; try (with_reducible rfl)
          (simp only [Act.put]); (try simp only [List.setIfInBounds_toArray]); (try simp only [List.set_cons_succ]); (try simp only [List.set_cons_zero])
          refine WpG.takeD 4 (some 82) (v := ?_) rfl rfl (by kernel_rfl) (fun _ _ _ h => h) (.val rfl (fun wz hwz => ?_)) ?_
          rotate_left
          · go_simp; try (with_reducible rfl)
          (simp only [Act.put]); (try simp only [List.setIfInBounds_toArray]); (try simp only [List.set_cons_succ]); (try simp only [List.set_cons_zero])
          refine WpG.takeD 5 (some 83) (v := ?_) rfl rfl (by kernel_rfl) (fun _ _ _ h => h) (.val rfl (fun wz hwz => ?_)) ?_
          rotate_left
          · go_simp; try (with_reducible rfl)
          (simp only [Act.put]); (try simp only [List.setIfInBounds_toArray]); (try simp only [List.set_cons_succ]); (try simp only [List.set_cons_zero])
          refine WpG.takeD 6 (some 84) (v := ?_) rfl rfl (by kernel_rfl) (fun _ _ _ h => h) (.val rfl (fun wz hwz => ?_)) ?_
          rotate_left
          · go_simp; try (with_reducible rfl)
          (simp only [Act.put]); (try simp only [List.setIfInBounds_toArray]); (try simp only [List.set_cons_succ]); (try simp only [List.set_cons_zero])
          refine WpG.takeD 7 (some 85) rfl rfl (by kernel_rfl) (fun _ _ _ h => h) (.call rfl (fun wz hwz => HSZ.out wz (hwz)) (fun wz hwz => ?_)) ?_
          · go_simp; try (with_reducible rfl)
          (simp only [Act.put]); (try simp only [List.setIfInBounds_toArray]); (try simp only [List.set_cons_succ]); (try simp only [List.set_cons_zero])
          refine WpG.takeD 8 (some 77) (v := ?_) rfl rfl (by kernel_rfl) (fun _ _ _ h => h) (.val rfl (fun wz hwz => ?_)) ?_
          rotate_left
          · go_simp; try (with_reducible rfl)
          (simp only [Act.put]); (try simp only [List.setIfInBounds_toArray]); (try simp only [List.set_cons_succ]); (try simp only [List.set_cons_zero])
          refine WpG.takeD 9 (some 86) (v := ?_) rfl rfl (by kernel_rfl) (fun _ _ _ h => h) (.val rfl (fun wz hwz => ?_)) ?_
          rotate_left
          · go_simp; try (with_reducible rfl)
          (simp only [Act.put]); (try simp only [List.setIfInBounds_toArray]); (try simp only [List.set_cons_succ]); (try simp only [List.set_cons_zero])
          refine WpG.takeD 10 (some 87) (v := ?_) rfl rfl (by kernel_rfl) (fun _ _ _ h => h) (.val rfl (fun wz hwz => ?_)) ?_
          rotate_left
          · go_simp; try (with_reducible rfl)
          (simp only [Act.put]); (try simp only [List.setIfInBounds_toArray]); (try simp only [List.set_cons_succ]); (try simp only [List.set_cons_zero])
          refine WpG.oneD 11 (some 18) rfl rfl (by kernel_rfl) (fun b : Nat => Value.pointer (some ⟨b, 0, none⟩)) (fun b w => wd.heap.size ≤ b ∧ ∃ u v, V2 w b u v) (fun _ _ _ h hb => ⟨h.1, let ⟨u, v, hV⟩ := h.2; ⟨u, v, hV.call hb⟩⟩) (Fresh.var [.int .u64 0, .int .u64 0] 41 rfl (fun wz hwz => (hwz).size) (fun wz hwz => by go_simp; try (with_reducible rfl)) (R := fun b w => ∃ u v, V2 w b u v) (fun wz hwz => ⟨_, _, V2.new wz _ _ _⟩)) (fun bb w0' hw0' hR0' => ?_)
          (simp only [Act.put]); (try simp only [List.setIfInBounds_toArray]); (try simp only [List.set_cons_succ]); (try simp only [List.set_cons_zero])
          refine WpG.oneSkip 12 none rfl rfl (by kernel_rfl) (fun _ => True) (fun _ _ _ _ => trivial) rfl (fun wz hwz => ?_) ?_
          · obtain ⟨hge, u, v, hV⟩ := hwz.2; obtain ⟨q0, q1, q2, q3, q4⟩ := V2.mk hV.c0 hV.c1 hV.f0 hV.f1 hV.lt; exact ⟨(wz.setCell ⟨bb, 0, none⟩ (.int .u64 0)).setCell ⟨bb, 1, none⟩ (.int .u64 0), by go_simp; try (with_reducible rfl), ⟨bl_st (hwz.1) hge _ _, ⟨hge, _, _, V2.set hV _ _⟩⟩, trivial⟩
          (simp only [Act.put]); (try simp only [List.setIfInBounds_toArray]); (try simp only [List.set_cons_succ]); (try simp only [List.set_cons_zero])
          refine WpG.done (by kernel_rfl) (fun w12 hS => ?_)
          (try simp only [List.drop_succ_cons]); (try simp only [List.drop_zero]); (try simp only [Nat.reduceSub]); (try simp only [List.take_succ_cons]); (try simp only [List.take_zero])
          go_wp2_with fail
          go_meet
          exact ⟨rfl, hS.1.1⟩
        case rest =>
          obtain ⟨rfl, hbc⟩ := hcut
          replace hbw := bl_call hbw (Nat.le_refl _) hbc
          replace hx := hx.call hbc
          replace hg := hg.later hbc
          replace hIn := hIn.call hbc
          replace hy := hy.call hbc
          clear HSZ hbc hw1 hj0 hj1 hj2 hj3 hj4 hj5 x0 x1 x2 x3 x4 x5 x6
          generalize wc = we at hx hg hIn hbw hy ⊢
          have hgIw : gI < we.heap.size := hIn.lt
          have hS : SlK we we.heap.size (.slice (some ⟨gI, 0, none⟩) j j) zs := by
            have h := hIn.slK (by omega) hIn.lt
            rwa [hinl] at h
          have HOF : Hid (∀ wz, Below we.heap.size we wz → Calls Try.prog 35 #[.int .i64 f, .agg #[.int .u8 k, .slice A2 l2 c2', .int .i64 m], .slice (some ⟨gI, 0, none⟩) j j] wz (RetK y wz)) := by
            intro wz hb
            have h := law09_of hf wz g k _ m (hg.later hb) _ zs (hS.later hb) (by rw [hinl, HQ.out])
            rwa [HY.out] at h
          have HDG : Hid (∀ wz, Below we.heap.size we wz → Calls Try.prog 36 #[.agg #[.int .u8 k, .slice A2 l2 c2', .int .i64 m]] wz fun e w' => e = .returned (.int .i64 (g.degree : Int)) ∧ Below wz.heap.size wz w') :=
            fun wz hb => gadget_Degree wz we.heap.size g k _ m (hg.below hb)
          have HAR : Hid (∀ wz, Below we.heap.size we wz → Calls Try.prog 32 #[.agg #[.int .u8 k, .slice A2 l2 c2', .int .i64 m]] wz fun e w' => e = .returned (.int .i64 (j : Int)) ∧ Below wz.heap.size wz w') := by
            intro wz hb
            have h := gadget_Arity wz we.heap.size g k _ m (hg.below hb)
            rwa [HQ.out] at h
          clear HY hS hIn
          obtain ⟨x0, x1, x2, x3, x4, x5, x6⟩ := hx.get3
          obtain ⟨y0, y1, y2, y3, y4⟩ := V2.mk hy.c0 hy.c1 hy.f0 hy.f1 hy.lt
          have hlt4 : w4.heap.size < we.heap.size := hx.lt
          have hlt8 : w8.heap.size < we.heap.size := hy.lt
          cases g with
          | mul =>
            obtain ⟨rfl, hsl, rfl⟩ := hg
            injection hsl with hA hl hc
            subst hA hl hc
            have hjq : j = 2 := HQ.out.symm
            subst hjq
            rw [show Gad.degree (Gad.mul : Gad f) = 2 from rfl] at HDG
            clear HQ
            go_upto_region 21 with fail
            refine region_B (n := 30) (m := 31) (f := 30) (by kernel_rfl) (by kernel_rfl) rfl ?_
            refine WpH.takeD 0 (some 101) (v := ?_) rfl rfl (by kernel_rfl) (fun _ _ _ h => h) (.val rfl (fun wz hwz => ?_)) ?_
            rotate_left
            · go_simp; try (with_reducible rfl)
            (simp only [Act.put]); (try simp only [List.setIfInBounds_toArray]); (try simp only [List.set_cons_succ]); (try simp only [List.set_cons_zero])
            refine WpH.takeD 1 (some 102) (v := ?_) rfl rfl (by kernel_rfl) (fun _ _ _ h => h) (.val rfl (fun wz hwz => ?_)) ?_
            rotate_left
            · go_simp; try (with_reducible rfl)
            (simp only [Act.put]); (try simp only [List.setIfInBounds_toArray]); (try simp only [List.set_cons_succ]); (try simp only [List.set_cons_zero])
            refine WpH.takeD 2 (some 103) (v := ?_) rfl rfl (by kernel_rfl) (fun _ _ _ h => h) (.val rfl (fun wz hwz => ?_)) ?_
            rotate_left
            · go_simp; try (with_reducible rfl)
            (simp only [Act.put]); (try simp only [List.setIfInBounds_toArray]); (try simp only [List.set_cons_succ]); (try simp only [List.set_cons_zero])
            refine WpH.takeD 3 (some 104) (v := ?_) rfl rfl (by kernel_rfl) (fun _ _ _ h => h) (.val rfl (fun wz hwz => ?_)) ?_
            rotate_left
            · (obtain ⟨hcz, hfz⟩ := bcell hwz; go_simp; try (with_reducible rfl))
            (simp only [Act.put]); (try simp only [List.setIfInBounds_toArray]); (try simp only [List.set_cons_succ]); (try simp only [List.set_cons_zero])
            refine WpH.takeD 4 (some 105) (v := ?_) rfl rfl (by kernel_rfl) (fun _ _ _ h => h) (.val rfl (fun wz hwz => ?_)) ?_
            rotate_left
            · go_simp; try (with_reducible rfl)
            (simp only [Act.put]); (try simp only [List.setIfInBounds_toArray]); (try simp only [List.set_cons_succ]); (try simp only [List.set_cons_zero])
            refine WpH.takeD 5 (some 106) (v := ?_) rfl rfl (by kernel_rfl) (fun _ _ _ h => h) (.val rfl (fun wz hwz => ?_)) ?_
            rotate_left
            · (obtain ⟨hcz, hfz⟩ := bcell hwz; go_simp; try (with_reducible rfl))
            (simp only [Act.put]); (try simp only [List.setIfInBounds_toArray]); (try simp only [List.set_cons_succ]); (try simp only [List.set_cons_zero])
            refine WpH.takeD 6 (some 107) (v := ?_) rfl rfl (by kernel_rfl) (fun _ _ _ h => h) (.val rfl (fun wz hwz => ?_)) ?_
            rotate_left
            · go_simp; try (with_reducible rfl)
            (simp only [Act.put]); (try simp only [List.setIfInBounds_toArray]); (try simp only [List.set_cons_succ]); (try simp only [List.set_cons_zero])
            refine WpH.takeD 7 (some 108) rfl rfl (by kernel_rfl) (fun _ _ _ h => h) (.call rfl (fun wz hwz => HOF.out wz hwz) (fun wz hwz => ?_)) ?_
            · go_simp; try (with_reducible rfl)
            (simp only [Act.put]); (try simp only [List.setIfInBounds_toArray]); (try simp only [List.set_cons_succ]); (try simp only [List.set_cons_zero])
            refine WpH.takeD 8 (some 109) (v := ?_) rfl rfl (by kernel_rfl) (fun _ _ _ h => h) (.val rfl (fun wz hwz => ?_)) ?_
            rotate_left
            · go_simp; try (with_reducible rfl)
            (simp only [Act.put]); (try simp only [List.setIfInBounds_toArray]); (try simp only [List.set_cons_succ]); (try simp only [List.set_cons_zero])
            refine WpH.takeD 9 (some 110) (v := ?_) rfl rfl (by kernel_rfl) (fun _ _ _ h => h) (.val rfl (fun wz hwz => ?_)) ?_
            rotate_left
            · go_simp; try (with_reducible rfl)
            (simp only [Act.put]); (try simp only [List.setIfInBounds_toArray]); (try simp only [List.set_cons_succ]); (try simp only [List.set_cons_zero])
            refine WpH.takeD 10 (some 111) (v := ?_) rfl rfl (by kernel_rfl) (fun _ _ _ h => h) (.val rfl (fun wz hwz => ?_)) ?_
            rotate_left
            · go_simp; try (with_reducible rfl)
            (simp only [Act.put]); (try simp only [List.setIfInBounds_toArray]); (try simp only [List.set_cons_succ]); (try simp only [List.set_cons_zero])
            refine WpH.takeD 11 (some 112) (v := ?_) rfl rfl (by kernel_rfl) (fun _ _ _ h => h) (.val rfl (fun wz hwz => ?_)) ?_
            rotate_left
            · go_simp; try (with_reducible rfl)
            (simp only [Act.put]); (try simp only [List.setIfInBounds_toArray]); (try simp only [List.set_cons_succ]); (try simp only [List.set_cons_zero])
            refine WpH.takeD 12 (some 113) (v := ?_) rfl rfl (by kernel_rfl) (fun _ _ _ h => h) (.val rfl (fun wz hwz => ?_)) ?_
            rotate_left
            · go_simp; try (with_reducible rfl)
            (simp only [Act.put]); (try simp only [List.setIfInBounds_toArray]); (try simp only [List.set_cons_succ]); (try simp only [List.set_cons_zero])
            refine WpH.takeD 13 (some 114) (v := ?_) rfl rfl (by kernel_rfl) (fun _ _ _ h => h) (.val rfl (fun wz hwz => ?_)) ?_
            rotate_left
            · go_simp; try (with_reducible rfl)
            (simp only [Act.put]); (try simp only [List.setIfInBounds_toArray]); (try simp only [List.set_cons_succ]); (try simp only [List.set_cons_zero])
            refine WpH.takeD 14 (some 115) (v := ?_) rfl rfl (by kernel_rfl) (fun _ _ _ h => h) (.val rfl (fun wz hwz => ?_)) ?_
            rotate_left
            · go_simp; try (with_reducible rfl)
            (simp only [Act.put]); (try simp only [List.setIfInBounds_toArray]); (try simp only [List.set_cons_succ]); (try simp only [List.set_cons_zero])
            refine WpH.takeD 15 (some 116) (v := ?_) rfl rfl (by kernel_rfl) (fun _ _ _ h => h) (.val rfl (fun wz hwz => ?_)) ?_
            rotate_left
            · go_simp; try (with_reducible rfl)
            (simp only [Act.put]); (try simp only [List.setIfInBounds_toArray]); (try simp only [List.set_cons_succ]); (try simp only [List.set_cons_zero])
            refine WpH.takeD 16 (some 117) (v := ?_) rfl rfl (by kernel_rfl) (fun _ _ _ h => h) (.val rfl (fun wz hwz => ?_)) ?_
            rotate_left
            · go_simp; try (with_reducible rfl)
            (simp only [Act.put]); (try simp only [List.setIfInBounds_toArray]); (try simp only [List.set_cons_succ]); (try simp only [List.set_cons_zero])
            refine WpH.takeD 17 (some 118) (v := ?_) rfl rfl (by kernel_rfl) (fun _ _ _ h => h) (.val rfl (fun wz hwz => ?_)) ?_
            rotate_left
            · go_simp; try (with_reducible rfl)
            (simp only [Act.put]); (try simp only [List.setIfInBounds_toArray]); (try simp only [List.set_cons_succ]); (try simp only [List.set_cons_zero])
            refine WpH.takeD 18 (some 119) (v := ?_) rfl rfl (by kernel_rfl) (fun _ _ _ h => h) (.val rfl (fun wz hwz => ?_)) ?_
            rotate_left
            · go_simp; try (with_reducible rfl)
            (simp only [Act.put]); (try simp only [List.setIfInBounds_toArray]); (try simp only [List.set_cons_succ]); (try simp only [List.set_cons_zero])
            refine WpH.takeD 19 (some 120) (v := ?_) rfl rfl (by kernel_rfl) (fun _ _ _ h => h) (.val rfl (fun wz hwz => ?_)) ?_
            rotate_left
            · (obtain ⟨hcz, hfz⟩ := bcell hwz; go_simp; try (with_reducible rfl))
            (simp only [Act.put]); (try simp only [List.setIfInBounds_toArray]); (try simp only [List.set_cons_succ]); (try simp only [List.set_cons_zero])
            refine WpH.takeD 20 (some 121) rfl rfl (by kernel_rfl) (fun _ _ _ h => h) (.call rfl (fun wz hwz => HDG.out wz hwz) (fun wz hwz => ?_)) ?_
            · go_simp; try (with_reducible rfl)
            (simp only [Act.put]); (try simp only [List.setIfInBounds_toArray]); (try simp only [List.set_cons_succ]); (try simp only [List.set_cons_zero])
            refine WpH.takeD 21 (some 122) (v := ?_) rfl rfl (by kernel_rfl) (fun _ _ _ h => h) (.val rfl (fun wz hwz => ?_)) ?_
            rotate_left
            · go_simp; try (with_reducible rfl)
            (simp only [Act.put]); (try simp only [List.setIfInBounds_toArray]); (try simp only [List.set_cons_succ]); (try simp only [List.set_cons_zero])
            refine WpH.takeD 22 (some 123) (v := ?_) rfl rfl (by kernel_rfl) (fun _ _ _ h => h) (.val rfl (fun wz hwz => ?_)) ?_
            rotate_left
            · go_simp; try (with_reducible rfl)
            (simp only [Act.put]); (try simp only [List.setIfInBounds_toArray]); (try simp only [List.set_cons_succ]); (try simp only [List.set_cons_zero])
            refine WpH.takeD 23 (some 124) (v := ?_) rfl rfl (by kernel_rfl) (fun _ _ _ h => h) (.val rfl (fun wz hwz => ?_)) ?_
            rotate_left
            · go_simp; try (with_reducible rfl)
            (simp only [Act.put]); (try simp only [List.setIfInBounds_toArray]); (try simp only [List.set_cons_succ]); (try simp only [List.set_cons_zero])
            refine WpH.takeD 24 (some 125) (v := ?_) rfl rfl (by kernel_rfl) (fun _ _ _ h => h) (.val rfl (fun wz hwz => ?_)) ?_
            rotate_left
            · go_simp; try (with_reducible rfl)
            (simp only [Act.put]); (try simp only [List.setIfInBounds_toArray]); (try simp only [List.set_cons_succ]); (try simp only [List.set_cons_zero])
            refine WpH.takeD 25 (some 126) (v := ?_) rfl rfl (by kernel_rfl) (fun _ _ _ h => h) (.val rfl (fun wz hwz => ?_)) ?_
            rotate_left
            · (obtain ⟨hcz, hfz⟩ := bcell hwz; go_simp; try (with_reducible rfl))
            (simp only [Act.put]); (try simp only [List.setIfInBounds_toArray]); (try simp only [List.set_cons_succ]); (try simp only [List.set_cons_zero])
            refine WpH.takeD 26 (some 127) rfl rfl (by kernel_rfl) (fun _ _ _ h => h) (.call rfl (fun wz hwz => HAR.out wz hwz) (fun wz hwz => ?_)) ?_
            · go_simp; try (with_reducible rfl)
            (simp only [Act.put]); (try simp only [List.setIfInBounds_toArray]); (try simp only [List.set_cons_succ]); (try simp only [List.set_cons_zero])
            refine WpH.takeD 27 (some 128) (v := ?_) rfl rfl (by kernel_rfl) (fun _ _ _ h => h) (.val rfl (fun wz hwz => ?_)) ?_
            rotate_left
            · go_simp; try (with_reducible rfl)
            (simp only [Act.put]); (try simp only [List.setIfInBounds_toArray]); (try simp only [List.set_cons_succ]); (try simp only [List.set_cons_zero])
            refine WpH.takeD 28 (some 129) (v := ?_) rfl rfl (by kernel_rfl) (fun _ _ _ h => h) (.val rfl (fun wz hwz => ?_)) ?_
            rotate_left
            · go_simp; try (with_reducible rfl)
            (simp only [Act.put]); (try simp only [List.setIfInBounds_toArray]); (try simp only [List.set_cons_succ]); (try simp only [List.set_cons_zero])
            refine WpH.takeD 29 (some 130) (v := ?_) rfl rfl (by kernel_rfl) (fun _ _ _ h => h) (.val rfl (fun wz hwz => ?_)) ?_
            rotate_left
            · go_simp; try (with_reducible rfl)
            (simp only [Act.put]); (try simp only [List.setIfInBounds_toArray]); (try simp only [List.set_cons_succ]); (try simp only [List.set_cons_zero])
            refine WpH.doneB (by kernel_rfl) (fun w12 hw12 => ?_)
            (try simp only [List.drop_succ_cons]); (try simp only [List.drop_zero]); (try simp only [Nat.reduceSub]); (try simp only [List.take_succ_cons]); (try simp only [List.take_zero])
            replace hbw := bl_call hbw (Nat.le_refl _) hw12
            go_wp2_with fail
            go_ret
            exact ⟨rfl, hbw⟩
          | par q =>
            obtain ⟨rfl, hsl, rfl, hq1', hq16⟩ := hg
            injection hsl with hA hl hc
            subst hA hl hc
            have hjq : j = 2 * q := HQ.out.symm
            rw [show Gad.degree (Gad.par q : Gad f) = 2 from rfl] at HDG
            have hqj : 2 * (q : Int) = (j : Int) := by omega
            have hwj : IntKind.i64.wrap (j : Int) = (j : Int) := IntWalk.i64_in _ (by omega)
            clear HQ hjq
            go_upto_region 21 with fail
            refine region_B (n := 30) (m := 31) (f := 30) (by kernel_rfl) (by kernel_rfl) rfl ?_
            refine WpH.takeD 0 (some 101) (v := ?_) rfl rfl (by kernel_rfl) (fun _ _ _ h => h) (.val rfl (fun wz hwz => ?_)) ?_
            rotate_left
            · go_simp; try (with_reducible rfl)
            (simp only [Act.put]); (try simp only [List.setIfInBounds_toArray]); (try simp only [List.set_cons_succ]); (try simp only [List.set_cons_zero])
            refine WpH.takeD 1 (some 102) (v := ?_) rfl rfl (by kernel_rfl) (fun _ _ _ h => h) (.val rfl (fun wz hwz => ?_)) ?_
            rotate_left
            · go_simp; try (with_reducible rfl)
            (simp only [Act.put]); (try simp only [List.setIfInBounds_toArray]); (try simp only [List.set_cons_succ]); (try simp only [List.set_cons_zero])
            refine WpH.takeD 2 (some 103) (v := ?_) rfl rfl (by kernel_rfl) (fun _ _ _ h => h) (.val rfl (fun wz hwz => ?_)) ?_
            rotate_left
            · go_simp; try (with_reducible rfl)
            (simp only [Act.put]); (try simp only [List.setIfInBounds_toArray]); (try simp only [List.set_cons_succ]); (try simp only [List.set_cons_zero])
            refine WpH.takeD 3 (some 104) (v := ?_) rfl rfl (by kernel_rfl) (fun _ _ _ h => h) (.val rfl (fun wz hwz => ?_)) ?_
            rotate_left
            · (obtain ⟨hcz, hfz⟩ := bcell hwz; go_simp; try (with_reducible rfl))
            (simp only [Act.put]); (try simp only [List.setIfInBounds_toArray]); (try simp only [List.set_cons_succ]); (try simp only [List.set_cons_zero])
            refine WpH.takeD 4 (some 105) (v := ?_) rfl rfl (by kernel_rfl) (fun _ _ _ h => h) (.val rfl (fun wz hwz => ?_)) ?_
            rotate_left
            · go_simp; try (with_reducible rfl)
            (simp only [Act.put]); (try simp only [List.setIfInBounds_toArray]); (try simp only [List.set_cons_succ]); (try simp only [List.set_cons_zero])
            refine WpH.takeD 5 (some 106) (v := ?_) rfl rfl (by kernel_rfl) (fun _ _ _ h => h) (.val rfl (fun wz hwz => ?_)) ?_
            rotate_left
            · (obtain ⟨hcz, hfz⟩ := bcell hwz; go_simp; try (with_reducible rfl))
            (simp only [Act.put]); (try simp only [List.setIfInBounds_toArray]); (try simp only [List.set_cons_succ]); (try simp only [List.set_cons_zero])
            refine WpH.takeD 6 (some 107) (v := ?_) rfl rfl (by kernel_rfl) (fun _ _ _ h => h) (.val rfl (fun wz hwz => ?_)) ?_
            rotate_left
            · go_simp; try (with_reducible rfl)
            (simp only [Act.put]); (try simp only [List.setIfInBounds_toArray]); (try simp only [List.set_cons_succ]); (try simp only [List.set_cons_zero])
            refine WpH.takeD 7 (some 108) rfl rfl (by kernel_rfl) (fun _ _ _ h => h) (.call rfl (fun wz hwz => HOF.out wz hwz) (fun wz hwz => ?_)) ?_
            · go_simp; try (with_reducible rfl)
            (simp only [Act.put]); (try simp only [List.setIfInBounds_toArray]); (try simp only [List.set_cons_succ]); (try simp only [List.set_cons_zero])
            refine WpH.takeD 8 (some 109) (v := ?_) rfl rfl (by kernel_rfl) (fun _ _ _ h => h) (.val rfl (fun wz hwz => ?_)) ?_
            rotate_left
            · go_simp; try (with_reducible rfl)
            (simp only [Act.put]); (try simp only [List.setIfInBounds_toArray]); (try simp only [List.set_cons_succ]); (try simp only [List.set_cons_zero])
            refine WpH.takeD 9 (some 110) (v := ?_) rfl rfl (by kernel_rfl) (fun _ _ _ h => h) (.val rfl (fun wz hwz => ?_)) ?_
            rotate_left
            · go_simp; try (with_reducible rfl)
            (simp only [Act.put]); (try simp only [List.setIfInBounds_toArray]); (try simp only [List.set_cons_succ]); (try simp only [List.set_cons_zero])
            refine WpH.takeD 10 (some 111) (v := ?_) rfl rfl (by kernel_rfl) (fun _ _ _ h => h) (.val rfl (fun wz hwz => ?_)) ?_
            rotate_left
            · go_simp; try (with_reducible rfl)
            (simp only [Act.put]); (try simp only [List.setIfInBounds_toArray]); (try simp only [List.set_cons_succ]); (try simp only [List.set_cons_zero])
            refine WpH.takeD 11 (some 112) (v := ?_) rfl rfl (by kernel_rfl) (fun _ _ _ h => h) (.val rfl (fun wz hwz => ?_)) ?_
            rotate_left
            · go_simp; try (with_reducible rfl)
            (simp only [Act.put]); (try simp only [List.setIfInBounds_toArray]); (try simp only [List.set_cons_succ]); (try simp only [List.set_cons_zero])
            refine WpH.takeD 12 (some 113) (v := ?_) rfl rfl (by kernel_rfl) (fun _ _ _ h => h) (.val rfl (fun wz hwz => ?_)) ?_
            rotate_left
            · go_simp; try (with_reducible rfl)
            (simp only [Act.put]); (try simp only [List.setIfInBounds_toArray]); (try simp only [List.set_cons_succ]); (try simp only [List.set_cons_zero])
            refine WpH.takeD 13 (some 114) (v := ?_) rfl rfl (by kernel_rfl) (fun _ _ _ h => h) (.val rfl (fun wz hwz => ?_)) ?_
            rotate_left
            · go_simp; try (with_reducible rfl)
            (simp only [Act.put]); (try simp only [List.setIfInBounds_toArray]); (try simp only [List.set_cons_succ]); (try simp only [List.set_cons_zero])
            refine WpH.takeD 14 (some 115) (v := ?_) rfl rfl (by kernel_rfl) (fun _ _ _ h => h) (.val rfl (fun wz hwz => ?_)) ?_
            rotate_left
            · go_simp; try (with_reducible rfl)
            (simp only [Act.put]); (try simp only [List.setIfInBounds_toArray]); (try simp only [List.set_cons_succ]); (try simp only [List.set_cons_zero])
            refine WpH.takeD 15 (some 116) (v := ?_) rfl rfl (by kernel_rfl) (fun _ _ _ h => h) (.val rfl (fun wz hwz => ?_)) ?_
            rotate_left
            · go_simp; try (with_reducible rfl)
            (simp only [Act.put]); (try simp only [List.setIfInBounds_toArray]); (try simp only [List.set_cons_succ]); (try simp only [List.set_cons_zero])
            refine WpH.takeD 16 (some 117) (v := ?_) rfl rfl (by kernel_rfl) (fun _ _ _ h => h) (.val rfl (fun wz hwz => ?_)) ?_
            rotate_left
            · go_simp; try (with_reducible rfl)
            (simp only [Act.put]); (try simp only [List.setIfInBounds_toArray]); (try simp only [List.set_cons_succ]); (try simp only [List.set_cons_zero])
            refine WpH.takeD 17 (some 118) (v := ?_) rfl rfl (by kernel_rfl) (fun _ _ _ h => h) (.val rfl (fun wz hwz => ?_)) ?_
            rotate_left
            · go_simp; try (with_reducible rfl)
            (simp only [Act.put]); (try simp only [List.setIfInBounds_toArray]); (try simp only [List.set_cons_succ]); (try simp only [List.set_cons_zero])
            refine WpH.takeD 18 (some 119) (v := ?_) rfl rfl (by kernel_rfl) (fun _ _ _ h => h) (.val rfl (fun wz hwz => ?_)) ?_
            rotate_left
            · go_simp; try (with_reducible rfl)
            (simp only [Act.put]); (try simp only [List.setIfInBounds_toArray]); (try simp only [List.set_cons_succ]); (try simp only [List.set_cons_zero])
            refine WpH.takeD 19 (some 120) (v := ?_) rfl rfl (by kernel_rfl) (fun _ _ _ h => h) (.val rfl (fun wz hwz => ?_)) ?_
            rotate_left
            · (obtain ⟨hcz, hfz⟩ := bcell hwz; go_simp; try (with_reducible rfl))
            (simp only [Act.put]); (try simp only [List.setIfInBounds_toArray]); (try simp only [List.set_cons_succ]); (try simp only [List.set_cons_zero])
            refine WpH.takeD 20 (some 121) rfl rfl (by kernel_rfl) (fun _ _ _ h => h) (.call rfl (fun wz hwz => HDG.out wz hwz) (fun wz hwz => ?_)) ?_
            · go_simp; try (with_reducible rfl)
            (simp only [Act.put]); (try simp only [List.setIfInBounds_toArray]); (try simp only [List.set_cons_succ]); (try simp only [List.set_cons_zero])
            refine WpH.takeD 21 (some 122) (v := ?_) rfl rfl (by kernel_rfl) (fun _ _ _ h => h) (.val rfl (fun wz hwz => ?_)) ?_
            rotate_left
            · go_simp; try (with_reducible rfl)
            (simp only [Act.put]); (try simp only [List.setIfInBounds_toArray]); (try simp only [List.set_cons_succ]); (try simp only [List.set_cons_zero])
            refine WpH.takeD 22 (some 123) (v := ?_) rfl rfl (by kernel_rfl) (fun _ _ _ h => h) (.val rfl (fun wz hwz => ?_)) ?_
            rotate_left
            · go_simp; try (with_reducible rfl)
            (simp only [Act.put]); (try simp only [List.setIfInBounds_toArray]); (try simp only [List.set_cons_succ]); (try simp only [List.set_cons_zero])
            refine WpH.takeD 23 (some 124) (v := ?_) rfl rfl (by kernel_rfl) (fun _ _ _ h => h) (.val rfl (fun wz hwz => ?_)) ?_
            rotate_left
            · go_simp; try (with_reducible rfl)
            (simp only [Act.put]); (try simp only [List.setIfInBounds_toArray]); (try simp only [List.set_cons_succ]); (try simp only [List.set_cons_zero])
            refine WpH.takeD 24 (some 125) (v := ?_) rfl rfl (by kernel_rfl) (fun _ _ _ h => h) (.val rfl (fun wz hwz => ?_)) ?_
            rotate_left
            · go_simp; try (with_reducible rfl)
            (simp only [Act.put]); (try simp only [List.setIfInBounds_toArray]); (try simp only [List.set_cons_succ]); (try simp only [List.set_cons_zero])
            refine WpH.takeD 25 (some 126) (v := ?_) rfl rfl (by kernel_rfl) (fun _ _ _ h => h) (.val rfl (fun wz hwz => ?_)) ?_
            rotate_left
            · (obtain ⟨hcz, hfz⟩ := bcell hwz; go_simp; try (with_reducible rfl))
            (simp only [Act.put]); (try simp only [List.setIfInBounds_toArray]); (try simp only [List.set_cons_succ]); (try simp only [List.set_cons_zero])
            refine WpH.takeD 26 (some 127) rfl rfl (by kernel_rfl) (fun _ _ _ h => h) (.call rfl (fun wz hwz => HAR.out wz hwz) (fun wz hwz => ?_)) ?_
            · go_simp; try (with_reducible rfl)
            (simp only [Act.put]); (try simp only [List.setIfInBounds_toArray]); (try simp only [List.set_cons_succ]); (try simp only [List.set_cons_zero])
            refine WpH.takeD 27 (some 128) (v := ?_) rfl rfl (by kernel_rfl) (fun _ _ _ h => h) (.val rfl (fun wz hwz => ?_)) ?_
            rotate_left
            · go_simp; try (with_reducible rfl)
            (simp only [Act.put]); (try simp only [List.setIfInBounds_toArray]); (try simp only [List.set_cons_succ]); (try simp only [List.set_cons_zero])
            refine WpH.takeD 28 (some 129) (v := ?_) rfl rfl (by kernel_rfl) (fun _ _ _ h => h) (.val rfl (fun wz hwz => ?_)) ?_
            rotate_left
            · go_simp; try (with_reducible rfl)
            (simp only [Act.put]); (try simp only [List.setIfInBounds_toArray]); (try simp only [List.set_cons_succ]); (try simp only [List.set_cons_zero])
            refine WpH.takeD 29 (some 130) (v := ?_) rfl rfl (by kernel_rfl) (fun _ _ _ h => h) (.val rfl (fun wz hwz => ?_)) ?_
            rotate_left
            · go_simp; try (with_reducible rfl)
            (simp only [Act.put]); (try simp only [List.setIfInBounds_toArray]); (try simp only [List.set_cons_succ]); (try simp only [List.set_cons_zero])
            refine WpH.doneB (by kernel_rfl) (fun w12 hw12 => ?_)
            (try simp only [List.drop_succ_cons]); (try simp only [List.drop_zero]); (try simp only [Nat.reduceSub]); (try simp only [List.take_succ_cons]); (try simp only [List.take_zero])
            replace hbw := bl_call hbw (Nat.le_refl _) hw12
            go_wp2_with fail
            go_ret
            exact ⟨rfl, hbw⟩
          | eval cs =>
            obtain ⟨rfl, rfl, hsl, mm, yy, hmm, _, _, hm1', hm3'⟩ := hg
            obtain ⟨A3, c3, hv3, _⟩ := hsl
            injection hv3 with hA hl hc
            subst hA hc
            have hjq : j = 1 := HQ.out.symm
            subst hjq
            have hdg : Gad.degree (Gad.eval cs : Gad f) = mm := by show cs.length - 1 = mm; omega
            rw [hdg] at HDG
            rw [hmm] at hl
            subst hl
            clear HQ hdg hmm
            go_upto_region 21 with fail
            refine region_B (n := 30) (m := 31) (f := 30) (by kernel_rfl) (by kernel_rfl) rfl ?_
            refine WpH.takeD 0 (some 101) (v := ?_) rfl rfl (by kernel_rfl) (fun _ _ _ h => h) (.val rfl (fun wz hwz => ?_)) ?_
            rotate_left
            · go_simp; try (with_reducible rfl)
            (simp only [Act.put]); (try simp only [List.setIfInBounds_toArray]); (try simp only [List.set_cons_succ]); (try simp only [List.set_cons_zero])
            refine WpH.takeD 1 (some 102) (v := ?_) rfl rfl (by kernel_rfl) (fun _ _ _ h => h) (.val rfl (fun wz hwz => ?_)) ?_
            rotate_left
            · go_simp; try (with_reducible rfl)
            (simp only [Act.put]); (try simp only [List.setIfInBounds_toArray]); (try simp only [List.set_cons_succ]); (try simp only [List.set_cons_zero])
            refine WpH.takeD 2 (some 103) (v := ?_) rfl rfl (by kernel_rfl) (fun _ _ _ h => h) (.val rfl (fun wz hwz => ?_)) ?_
            rotate_left
            · go_simp; try (with_reducible rfl)
            (simp only [Act.put]); (try simp only [List.setIfInBounds_toArray]); (try simp only [List.set_cons_succ]); (try simp only [List.set_cons_zero])
            refine WpH.takeD 3 (some 104) (v := ?_) rfl rfl (by kernel_rfl) (fun _ _ _ h => h) (.val rfl (fun wz hwz => ?_)) ?_
            rotate_left
            · (obtain ⟨hcz, hfz⟩ := bcell hwz; go_simp; try (with_reducible rfl))
            (simp only [Act.put]); (try simp only [List.setIfInBounds_toArray]); (try simp only [List.set_cons_succ]); (try simp only [List.set_cons_zero])
            refine WpH.takeD 4 (some 105) (v := ?_) rfl rfl (by kernel_rfl) (fun _ _ _ h => h) (.val rfl (fun wz hwz => ?_)) ?_
            rotate_left
            · go_simp; try (with_reducible rfl)
            (simp only [Act.put]); (try simp only [List.setIfInBounds_toArray]); (try simp only [List.set_cons_succ]); (try simp only [List.set_cons_zero])
            refine WpH.takeD 5 (some 106) (v := ?_) rfl rfl (by kernel_rfl) (fun _ _ _ h => h) (.val rfl (fun wz hwz => ?_)) ?_
            rotate_left
            · (obtain ⟨hcz, hfz⟩ := bcell hwz; go_simp; try (with_reducible rfl))
            (simp only [Act.put]); (try simp only [List.setIfInBounds_toArray]); (try simp only [List.set_cons_succ]); (try simp only [List.set_cons_zero])
            refine WpH.takeD 6 (some 107) (v := ?_) rfl rfl (by kernel_rfl) (fun _ _ _ h => h) (.val rfl (fun wz hwz => ?_)) ?_
            rotate_left
            · go_simp; try (with_reducible rfl)
            (simp only [Act.put]); (try simp only [List.setIfInBounds_toArray]); (try simp only [List.set_cons_succ]); (try simp only [List.set_cons_zero])
            refine WpH.takeD 7 (some 108) rfl rfl (by kernel_rfl) (fun _ _ _ h => h) (.call rfl (fun wz hwz => HOF.out wz hwz) (fun wz hwz => ?_)) ?_
            · go_simp; try (with_reducible rfl)
            (simp only [Act.put]); (try simp only [List.setIfInBounds_toArray]); (try simp only [List.set_cons_succ]); (try simp only [List.set_cons_zero])
            refine WpH.takeD 8 (some 109) (v := ?_) rfl rfl (by kernel_rfl) (fun _ _ _ h => h) (.val rfl (fun wz hwz => ?_)) ?_
            rotate_left
            · go_simp; try (with_reducible rfl)
            (simp only [Act.put]); (try simp only [List.setIfInBounds_toArray]); (try simp only [List.set_cons_succ]); (try simp only [List.set_cons_zero])
            refine WpH.takeD 9 (some 110) (v := ?_) rfl rfl (by kernel_rfl) (fun _ _ _ h => h) (.val rfl (fun wz hwz => ?_)) ?_
            rotate_left
            · go_simp; try (with_reducible rfl)
            (simp only [Act.put]); (try simp only [List.setIfInBounds_toArray]); (try simp only [List.set_cons_succ]); (try simp only [List.set_cons_zero])
            refine WpH.takeD 10 (some 111) (v := ?_) rfl rfl (by kernel_rfl) (fun _ _ _ h => h) (.val rfl (fun wz hwz => ?_)) ?_
            rotate_left
            · go_simp; try (with_reducible rfl)
            (simp only [Act.put]); (try simp only [List.setIfInBounds_toArray]); (try simp only [List.set_cons_succ]); (try simp only [List.set_cons_zero])
            refine WpH.takeD 11 (some 112) (v := ?_) rfl rfl (by kernel_rfl) (fun _ _ _ h => h) (.val rfl (fun wz hwz => ?_)) ?_
            rotate_left
            · go_simp; try (with_reducible rfl)
            (simp only [Act.put]); (try simp only [List.setIfInBounds_toArray]); (try simp only [List.set_cons_succ]); (try simp only [List.set_cons_zero])
            refine WpH.takeD 12 (some 113) (v := ?_) rfl rfl (by kernel_rfl) (fun _ _ _ h => h) (.val rfl (fun wz hwz => ?_)) ?_
            rotate_left
            · go_simp; try (with_reducible rfl)
            (simp only [Act.put]); (try simp only [List.setIfInBounds_toArray]); (try simp only [List.set_cons_succ]); (try simp only [List.set_cons_zero])
            refine WpH.takeD 13 (some 114) (v := ?_) rfl rfl (by kernel_rfl) (fun _ _ _ h => h) (.val rfl (fun wz hwz => ?_)) ?_
            rotate_left
            · go_simp; try (with_reducible rfl)
            (simp only [Act.put]); (try simp only [List.setIfInBounds_toArray]); (try simp only [List.set_cons_succ]); (try simp only [List.set_cons_zero])
            refine WpH.takeD 14 (some 115) (v := ?_) rfl rfl (by kernel_rfl) (fun _ _ _ h => h) (.val rfl (fun wz hwz => ?_)) ?_
            rotate_left
            · go_simp; try (with_reducible rfl)
            (simp only [Act.put]); (try simp only [List.setIfInBounds_toArray]); (try simp only [List.set_cons_succ]); (try simp only [List.set_cons_zero])
            refine WpH.takeD 15 (some 116) (v := ?_) rfl rfl (by kernel_rfl) (fun _ _ _ h => h) (.val rfl (fun wz hwz => ?_)) ?_
            rotate_left
            · go_simp; try (with_reducible rfl)
            (simp only [Act.put]); (try simp only [List.setIfInBounds_toArray]); (try simp only [List.set_cons_succ]); (try simp only [List.set_cons_zero])
            refine WpH.takeD 16 (some 117) (v := ?_) rfl rfl (by kernel_rfl) (fun _ _ _ h => h) (.val rfl (fun wz hwz => ?_)) ?_
            rotate_left
            · go_simp; try (with_reducible rfl)
            (simp only [Act.put]); (try simp only [List.setIfInBounds_toArray]); (try simp only [List.set_cons_succ]); (try simp only [List.set_cons_zero])
            refine WpH.takeD 17 (some 118) (v := ?_) rfl rfl (by kernel_rfl) (fun _ _ _ h => h) (.val rfl (fun wz hwz => ?_)) ?_
            rotate_left
            · go_simp; try (with_reducible rfl)
            (simp only [Act.put]); (try simp only [List.setIfInBounds_toArray]); (try simp only [List.set_cons_succ]); (try simp only [List.set_cons_zero])
            refine WpH.takeD 18 (some 119) (v := ?_) rfl rfl (by kernel_rfl) (fun _ _ _ h => h) (.val rfl (fun wz hwz => ?_)) ?_
            rotate_left
            · go_simp; try (with_reducible rfl)
            (simp only [Act.put]); (try simp only [List.setIfInBounds_toArray]); (try simp only [List.set_cons_succ]); (try simp only [List.set_cons_zero])
            refine WpH.takeD 19 (some 120) (v := ?_) rfl rfl (by kernel_rfl) (fun _ _ _ h => h) (.val rfl (fun wz hwz => ?_)) ?_
            rotate_left
            · (obtain ⟨hcz, hfz⟩ := bcell hwz; go_simp; try (with_reducible rfl))
            (simp only [Act.put]); (try simp only [List.setIfInBounds_toArray]); (try simp only [List.set_cons_succ]); (try simp only [List.set_cons_zero])
            refine WpH.takeD 20 (some 121) rfl rfl (by kernel_rfl) (fun _ _ _ h => h) (.call rfl (fun wz hwz => HDG.out wz hwz) (fun wz hwz => ?_)) ?_
            · go_simp; try (with_reducible rfl)
            (simp only [Act.put]); (try simp only [List.setIfInBounds_toArray]); (try simp only [List.set_cons_succ]); (try simp only [List.set_cons_zero])
            refine WpH.takeD 21 (some 122) (v := ?_) rfl rfl (by kernel_rfl) (fun _ _ _ h => h) (.val rfl (fun wz hwz => ?_)) ?_
            rotate_left
            · go_simp; try (with_reducible rfl)
            (simp only [Act.put]); (try simp only [List.setIfInBounds_toArray]); (try simp only [List.set_cons_succ]); (try simp only [List.set_cons_zero])
            refine WpH.takeD 22 (some 123) (v := ?_) rfl rfl (by kernel_rfl) (fun _ _ _ h => h) (.val rfl (fun wz hwz => ?_)) ?_
            rotate_left
            · go_simp; try (with_reducible rfl)
            (simp only [Act.put]); (try simp only [List.setIfInBounds_toArray]); (try simp only [List.set_cons_succ]); (try simp only [List.set_cons_zero])
            refine WpH.takeD 23 (some 124) (v := ?_) rfl rfl (by kernel_rfl) (fun _ _ _ h => h) (.val rfl (fun wz hwz => ?_)) ?_
            rotate_left
            · go_simp; try (with_reducible rfl)
            (simp only [Act.put]); (try simp only [List.setIfInBounds_toArray]); (try simp only [List.set_cons_succ]); (try simp only [List.set_cons_zero])
            refine WpH.takeD 24 (some 125) (v := ?_) rfl rfl (by kernel_rfl) (fun _ _ _ h => h) (.val rfl (fun wz hwz => ?_)) ?_
            rotate_left
            · go_simp; try (with_reducible rfl)
            (simp only [Act.put]); (try simp only [List.setIfInBounds_toArray]); (try simp only [List.set_cons_succ]); (try simp only [List.set_cons_zero])
            refine WpH.takeD 25 (some 126) (v := ?_) rfl rfl (by kernel_rfl) (fun _ _ _ h => h) (.val rfl (fun wz hwz => ?_)) ?_
            rotate_left
            · (obtain ⟨hcz, hfz⟩ := bcell hwz; go_simp; try (with_reducible rfl))
            (simp only [Act.put]); (try simp only [List.setIfInBounds_toArray]); (try simp only [List.set_cons_succ]); (try simp only [List.set_cons_zero])
            refine WpH.takeD 26 (some 127) rfl rfl (by kernel_rfl) (fun _ _ _ h => h) (.call rfl (fun wz hwz => HAR.out wz hwz) (fun wz hwz => ?_)) ?_
            · go_simp; try (with_reducible rfl)
            (simp only [Act.put]); (try simp only [List.setIfInBounds_toArray]); (try simp only [List.set_cons_succ]); (try simp only [List.set_cons_zero])
            refine WpH.takeD 27 (some 128) (v := ?_) rfl rfl (by kernel_rfl) (fun _ _ _ h => h) (.val rfl (fun wz hwz => ?_)) ?_
            rotate_left
            · go_simp; try (with_reducible rfl)
            (simp only [Act.put]); (try simp only [List.setIfInBounds_toArray]); (try simp only [List.set_cons_succ]); (try simp only [List.set_cons_zero])
            refine WpH.takeD 28 (some 129) (v := ?_) rfl rfl (by kernel_rfl) (fun _ _ _ h => h) (.val rfl (fun wz hwz => ?_)) ?_
            rotate_left
            · go_simp; try (with_reducible rfl)
            (simp only [Act.put]); (try simp only [List.setIfInBounds_toArray]); (try simp only [List.set_cons_succ]); (try simp only [List.set_cons_zero])
            refine WpH.takeD 29 (some 130) (v := ?_) rfl rfl (by kernel_rfl) (fun _ _ _ h => h) (.val rfl (fun wz hwz => ?_)) ?_
            rotate_left
            · go_simp; try (with_reducible rfl)
            (simp only [Act.put]); (try simp only [List.setIfInBounds_toArray]); (try simp only [List.set_cons_succ]); (try simp only [List.set_cons_zero])
            refine WpH.doneB (by kernel_rfl) (fun w12 hw12 => ?_)
            (try simp only [List.drop_succ_cons]); (try simp only [List.drop_zero]); (try simp only [Nat.reduceSub]); (try simp only [List.take_succ_cons]); (try simp only [List.take_zero])
            replace hbw := bl_call hbw (Nat.le_refl _) hw12
            go_wp2_with fail
            go_ret
            exact ⟨rfl, hbw⟩

end Go.Proofs.Ytgambjmjbmdciaa
