/-
  WALK: tallymanlaw04.NttBack.
-/
import Derived.Test.YtfhmineolncefaaDoorMar
import Derived.Test.YtfhmineolncefaaDoorMao
import Derived.Test.YtfhmineolncefaaDoorMag
namespace Go.Proofs.YtfhmineolncefaaDoor
open Go.RowKit Fm
set_option linter.unusedVariables false
set_option maxRecDepth 100000

theorem TabW.st {w : World} (h : TabW w) {p : Addr} (hp : p.block ≠ 1) (x : Value) : TabW (w.setCell p x) :=
  ⟨fun j hj => by
    have hk : (w.setCell p x).heap[1]? = w.heap[1]? := Below.heap_setCell w p x _ (fun e => hp e.symm)
    exact (World.cell?_of_block (w := w) (a := ⟨1, j, none⟩) hk).trans (h.tab j hj), by simpa [World.setCell] using h.lt⟩

/-- sums go along -/
theorem vals_addL {f : Nat} (r : Fin (Pm f)) (n : Nat) (p q : KL f) (hl : p.length = q.length) : vals r n (addL p q) = addL (vals r n p) (vals r n q) := by
  refine List.ext_getElem ?_ fun i h1 h2 => ?_
  · rw [addL_length _ _ (by unfold vals; rw [ofF_length, ofF_length])]
    unfold vals
    rw [ofF_length, ofF_length]
  · have hadd : ∀ (p q : KL f), p.length = q.length → ∀ x, ev x (addL p q) = ev x p + ev x q := by
      intro p
      induction p with
      | nil =>
        intro q h x
        obtain rfl := List.length_eq_zero_iff.1 h.symm
        show (0 : Fin (Pm f)) = 0 + 0
        grind
      | cons a p ih =>
        intro q h x
        cases q with
        | nil => simp at h
        | cons b q =>
          show ev x ((a + b) :: addL p q) = _
          rw [ev_cons, ev_cons, ev_cons, ih q (by simpa using h) x]
          grind
    simp [vals, ofF, addL]
    exact hadd p q hl _

set_option maxHeartbeats 8000000 in
theorem walk_NttBack (n : Int) (vl vm : Value) (more : Int) (l m : List E) (w : World) (hT : TabW w) (hn : 0 ≤ n ∧ n ≤ 255) (hl : SlE w w.heap.size vl l) (hm : SlE w w.heap.size vm m) (hmo : 0 ≤ more ∧ more ≤ 255) :
    Calls Tryd.prog 3 #[.int .u8 n, vl, vm, .int .u8 more] w fun e w' => e = .returned (.bool true) ∧ Below w.heap.size w w' := by
  obtain ⟨f, hf, hF⟩ := law03_FN n hn.1 hn.2
  have HF := Lib.hid hF
  have HAW := Lib.hid (fun wz h => law04_Awake wz h)
  have htl := hT.lt
  obtain ⟨L, hL7, hLm⟩ : ∃ L : Nat, L ≤ 7 ∧ more.tmod 8 = (L : Int) := ⟨(more % 8).toNat, by omega, by rw [Int.tmod_eq_emod_of_nonneg hmo.1]; omega⟩
  have hLm2 : more % 8 = (L : Int) := by rw [← hLm, Int.tmod_eq_emod_of_nonneg hmo.1]
  have hp : 2 ^ L ≤ 2 ^ 7 := Nat.pow_le_pow_right (by omega) hL7
  have hp0 := Nat.two_pow_pos L
  have hpi : (2 : Int) ^ L = ((2 ^ L : Nat) : Int) := by rw [Int.natCast_pow]; rfl
  have HOF := Lib.hid (fun a0 a1 wz h0 h1 k0 k1 => ref_OfL hf a0 a1 wz h0 h1 k0 k1)
  have HL0 := Lib.hid hl
  have HM0 := Lib.hid hm
  have HV := Lib.hid (fun v (p : KL f) (hpl : p.length = 2 ^ L) wz hT hs => ntt_Values hf L (by omega) v p hpl wz hT hs)
  have HC := Lib.hid (fun v (q : KL f) (hq : q.length = 2 ^ L) wz hT hs => ntt_Coefs hf L (by omega) v q hq wz hT hs)
  have HADD := Lib.hid (fun va vb (a b : KL f) wz ha hb (h1 : a.length = 2 ^ L) (h2 : b.length = 2 ^ L) => field_AddVecK hf va vb a b wz ha hb (by omega) (by omega))
  have HBK := Lib.hid (fun (p : KL f) (hp : p.length = 2 ^ L) => coefsK_vals (f := f) (L := L) (by omega) p hp)
  have HVL := Lib.hid (fun (p : KL f) => valsK_length L p)
  have HVA := Lib.hid (fun (p q : KL f) (h : p.length = q.length) => vals_addL (rootK f L) (2 ^ L) p q h)
  have hmk := make_elem (2 ^ L) (by omega)
  have hfb0 : (1 : Int) ≤ (f : Int) := by rcases hf.or with rfl | rfl <;> omega
  have hfb1 : (f : Int) ≤ 2 := by rcases hf.or with rfl | rfl <;> omega
  have hL64 : (L : Int) < 64 := by omega
  obtain ⟨⟨A, c, rfl, _, _, hA⟩, hok⟩ := hl
  obtain ⟨⟨B, d, rfl, _, _, hB⟩, hokm⟩ := hm
  have HA := Lib.hid hA
  have HB := Lib.hid hB
  have HOK := Lib.hid hok
  have HOKM := Lib.hid hokm
  clear hA hB hok hokm hn hL7
  obtain ⟨N, hN⟩ : ∃ N, 2 ^ L = N := ⟨_, rfl⟩
  have hHN := Lib.hid hN
  rw [hN] at hp hp0 hpi hmk HV HC HADD HBK HVL HVA
  clear hN
  have hb00 : Below w.heap.size w w := Below.refl _ _
  go_enter Tryd.func3, Tryd.ntmps3
  go_wp2_with fail
  refine (HAW.out _ hT).mono ?_
  rintro e w1 ⟨rfl, hb1⟩
  replace hb00 := bl_call hb00 (Nat.le_refl _) hb1
  replace hT := hT.call hb1
  clear hb1
  go_upto_region 5 with (first
    | (go_at_call 16; refine (HF.out _).mono ?_; rintro e wq ⟨rfl, rfl⟩))
  apply region_G2 (n := 5) (m := 6) (f := 5) ((fun ga gb wz => Below w1.heap.size w1 wz ∧ (w1.heap.size ≤ ga ∧ RwK wz ga (List.replicate N (0 : Fin (Pm f)))) ∧ (w1.heap.size ≤ gb ∧ RwK wz gb (List.replicate N (0 : Fin (Pm f)))) ∧ ga ≠ gb))
  case hm => kernel_rfl
  case hB => kernel_rfl
  case hf => rfl
  case' h =>
    refine WpG.takeD 0 (some 37) (v := ?_) rfl rfl (by kernel_rfl) (fun _ _ _ h => h) (.val rfl (fun wz hwz => ?_)) ?_
    rotate_left
    · go_simp; try (with_reducible rfl)
    (simp only [Act.put]); (try simp only [List.setIfInBounds_toArray]); (try simp only [List.set_cons_succ]); (try simp only [List.set_cons_zero])
    refine WpG.takeD 2 (some 39) (v := ?_) rfl rfl (by kernel_rfl) (fun _ _ _ h => h) (.val rfl (fun wz hwz => ?_)) ?_
    rotate_left
    · go_simp; try (with_reducible rfl)
    (simp only [Act.put]); (try simp only [List.setIfInBounds_toArray]); (try simp only [List.set_cons_succ]); (try simp only [List.set_cons_zero])
    refine WpG.twoD 1 3 (some 38) (some 40) rfl rfl rfl rfl (by kernel_rfl) (fun b : Nat => Value.slice (some ⟨b, 0, none⟩) N N) (fun b wz => w1.heap.size ≤ b ∧ RwK wz b (List.replicate N (0 : Fin (Pm f)))) (fun _ _ _ h hb => ⟨h.1, h.2.call hb⟩) (Fresh.slice N N (cellsE (List.replicate N (0, 0))) 28 rfl (fun wz hwz => (hwz).size) (fun wz hwz => by go_simp; try (with_reducible rfl)) (R := fun b wz => RwK wz b (List.replicate N (0 : Fin (Pm f)))) (fun wz hwz => RwK.new wz _ _ (by unfold esK; rw [List.map_replicate, eK_zero]) _)) (fun b : Nat => Value.slice (some ⟨b, 0, none⟩) N N) (fun b wz => w1.heap.size ≤ b ∧ RwK wz b (List.replicate N (0 : Fin (Pm f)))) (fun _ _ _ h hb => ⟨h.1, h.2.call hb⟩) (Fresh.slice N N (cellsE (List.replicate N (0, 0))) 28 rfl (fun wz hwz => (hwz).size) (fun wz hwz => by go_simp; try (with_reducible rfl)) (R := fun b wz => RwK wz b (List.replicate N (0 : Fin (Pm f)))) (fun wz hwz => RwK.new wz _ _ (by unfold esK; rw [List.map_replicate, eK_zero]) _)) (fun ga w0ga hw0ga hR0ga => ?rg5_3a) (fun gb w0gb hw0gb hR0gb => ?rg5_3b)
    case' rg5_3a =>
      (simp only [Act.put]); (try simp only [List.setIfInBounds_toArray]); (try simp only [List.set_cons_succ]); (try simp only [List.set_cons_zero])
      refine WpG.takeD 4 (some 12) (v := ?_) rfl rfl (by kernel_rfl) (fun _ _ _ h => h) (.val rfl (fun wz hwz => ?_)) ?_
      rotate_left
      · go_simp; try (with_reducible rfl)
      (simp only [Act.put]); (try simp only [List.setIfInBounds_toArray]); (try simp only [List.set_cons_succ]); (try simp only [List.set_cons_zero])
      refine WpG.oneD 3 (some 40) rfl rfl (by kernel_rfl) (fun b : Nat => Value.slice (some ⟨b, 0, none⟩) N N) (fun b wz => ga + 1 ≤ b ∧ RwK wz b (List.replicate N (0 : Fin (Pm f)))) (fun _ _ _ h hb => ⟨h.1, h.2.call hb⟩) (Fresh.slice N N (cellsE (List.replicate N (0, 0))) 28 rfl (fun wz hwz => (hwz.2).2.lt) (fun wz hwz => by go_simp; try (with_reducible rfl)) (R := fun b wz => RwK wz b (List.replicate N (0 : Fin (Pm f)))) (fun wz hwz => RwK.new wz _ _ (by unfold esK; rw [List.map_replicate, eK_zero]) _)) (fun gb w0gb hw0gb hR0gb => ?_)
      (simp only [Act.put]); (try simp only [List.setIfInBounds_toArray]); (try simp only [List.set_cons_succ]); (try simp only [List.set_cons_zero])
      refine WpG.done (by kernel_rfl) (fun w2 hS => ⟨ga, gb, rfl, ?_⟩)
      · (obtain ⟨⟨h1, h2, h2'⟩, h3, h3'⟩ := hS; first | exact ⟨h1, ⟨h2, h2'⟩, ⟨by omega, h3'⟩, by omega⟩ | exact ⟨h1, ⟨by omega, h3'⟩, ⟨h2, h2'⟩, by omega⟩)
    case' rg5_3b =>
      (simp only [Act.put]); (try simp only [List.setIfInBounds_toArray]); (try simp only [List.set_cons_succ]); (try simp only [List.set_cons_zero])
      refine WpG.oneD 1 (some 38) rfl rfl (by kernel_rfl) (fun b : Nat => Value.slice (some ⟨b, 0, none⟩) N N) (fun b wz => gb + 1 ≤ b ∧ RwK wz b (List.replicate N (0 : Fin (Pm f)))) (fun _ _ _ h hb => ⟨h.1, h.2.call hb⟩) (Fresh.slice N N (cellsE (List.replicate N (0, 0))) 28 rfl (fun wz hwz => (hwz.2).2.lt) (fun wz hwz => by go_simp; try (with_reducible rfl)) (R := fun b wz => RwK wz b (List.replicate N (0 : Fin (Pm f)))) (fun wz hwz => RwK.new wz _ _ (by unfold esK; rw [List.map_replicate, eK_zero]) _)) (fun ga w0ga hw0ga hR0ga => ?_)
      (simp only [Act.put]); (try simp only [List.setIfInBounds_toArray]); (try simp only [List.set_cons_succ]); (try simp only [List.set_cons_zero])
      refine WpG.takeD 4 (some 12) (v := ?_) rfl rfl (by kernel_rfl) (fun _ _ _ h => h) (.val rfl (fun wz hwz => ?_)) ?_
      rotate_left
      · go_simp; try (with_reducible rfl)
      (simp only [Act.put]); (try simp only [List.setIfInBounds_toArray]); (try simp only [List.set_cons_succ]); (try simp only [List.set_cons_zero])
      refine WpG.done (by kernel_rfl) (fun w2 hS => ⟨ga, gb, rfl, ?_⟩)
      · (obtain ⟨⟨h1, h2, h2'⟩, h3, h3'⟩ := hS; first | exact ⟨h1, ⟨h2, h2'⟩, ⟨by omega, h3'⟩, by omega⟩ | exact ⟨h1, ⟨by omega, h3'⟩, ⟨h2, h2'⟩, by omega⟩)
  intro ga gb w2 hS
  (try simp only [List.drop_succ_cons]); (try simp only [List.drop_zero]); (try simp only [Nat.reduceSub]); (try simp only [List.take_succ_cons]); (try simp only [List.take_zero])
  obtain ⟨hb2, ⟨hga, ra⟩, ⟨hgb, rb⟩, hgab⟩ := hS
  have hga2 := Nat.le_trans hb00.size hga
  have hgb2 := Nat.le_trans hb00.size hgb
  have hal := ra.lt
  have hbl := rb.lt
  replace hb00 := bl_call hb00 (Nat.le_refl _) hb2
  replace hT := hT.call hb2
  clear hb2 hga hgb hmk
  go_wp2_with fail
  go_loopw [42] (fun kv wr => ∃ (k : Nat) (P Q : KL f), k ≤ N ∧ kv = .int .i64 k ∧ Hid (P.length = N ∧ Q.length = N) ∧ RwK wr ga P ∧ RwK wr gb Q ∧ TabW wr ∧ Below w.heap.size w wr) (fun kv _ => N - (intOf kv).toNat)
  case atStart => exact ⟨0, _, _, Nat.zero_le _, rfl, ⟨List.length_replicate .., List.length_replicate ..⟩, ra, rb, hT, hb00⟩
  case round =>
    clear ra rb hT hb00 hal hbl
    obtain ⟨k, P, Q, hk, rfl, hPQ, ra, rb, hT, hb00⟩ := hrel
    by_cases hkN : k < N
    · have g1 : (0 : Int) ≤ (k : Int) := by omega
      have g3 : (k : Int) < (N : Int) := by omega
      have HPL : Hid (P.length = N) := hPQ.out.1
      have HQL : Hid (Q.length = N) := hPQ.out.2
      clear hPQ
      by_cases hl0 : 0 < l.length
      · obtain ⟨q, hq⟩ : ∃ q : Nat, (k : Int).tmod (l.length : Int) = (q : Int) := ⟨((k : Int) % (l.length : Int)).toNat, by rw [Int.tmod_eq_emod_of_nonneg g1]; have := Int.emod_nonneg (k : Int) (show (l.length : Int) ≠ 0 by omega); omega⟩
        have hql : q < l.length := by
          have h1 := Int.emod_lt_of_pos (k : Int) (show (0 : Int) < (l.length : Int) by omega)
          rw [← Int.tmod_eq_emod_of_nonneg g1, hq] at h1
          omega
        have hqe : (k : Int) % (l.length : Int) = (q : Int) := by rw [← hq, Int.tmod_eq_emod_of_nonneg g1]
        obtain ⟨b, o, hAe, hbw, hrow⟩ := HA.out hl0
        obtain ⟨⟨x0, x1⟩, he⟩ : ∃ e, l[q]? = some e := ⟨_, List.getElem?_eq_getElem hql⟩
        obtain ⟨hx0, hx1, hx2, hx3⟩ := HOK.out _ (List.mem_of_getElem? he)
        obtain ⟨c0, c1⟩ := (hrow.below hb00 hbw) q _ he
        dsimp only at hx0 hx1 hx2 hx3 c0 c1
        subst hAe
        have g5 : (0 : Int) ≤ (q : Int) := by omega
        have g6 : (q : Int) < (l.length : Int) := by omega
        have g7 : ((l.length : Int) == 0) = false := by rw [beq_eq_false_iff_ne]; omega
        have g8 : ¬ (l.length = 0) := by omega
        clear he hrow
        go_wp2_with fail
        refine (HOF.out x0 x1 _ hx0 hx1 hx2 hx3).mono ?_
        rintro e w5 ⟨rfl, hb5⟩
        clear c0 c1
        replace hb00 := bl_call hb00 (Nat.le_refl _) hb5
        replace hT := hT.call hb5
        replace ra := ra.call hb5
        replace rb := rb.call hb5
        clear hb5
        obtain ⟨y9, hy9⟩ : ∃ x, P[k]? = some x := ⟨_, List.getElem?_eq_getElem (by have := HPL.out; omega)⟩
        obtain ⟨c0, c1⟩ := ra.at hy9
        obtain ⟨f0, f1⟩ := ra.frz (i := k) (by have := HPL.out; omega)
        have g9 := ra.lt
        clear hy9
        go_upto_region 11 with fail
        replace ra := ra.set k (by have := HPL.out; omega) (kL f x0 x1)
        replace rb := (rb.far (p := ⟨ga, k * 2, none⟩) (by dsimp only; omega) (.int .u64 (lo (kL f x0 x1)))).far (p := ⟨ga, k * 2 + 1, none⟩) (by dsimp only; omega) (.int .u64 (hi (kL f x0 x1)))
        replace hT := (hT.st (p := ⟨ga, k * 2, none⟩) (by dsimp only; omega) (.int .u64 (lo (kL f x0 x1)))).st (p := ⟨ga, k * 2 + 1, none⟩) (by dsimp only; omega) (.int .u64 (hi (kL f x0 x1)))
        replace hb00 := bl_set (p := ⟨ga, k * 2 + 1, none⟩) (bl_set (p := ⟨ga, k * 2, none⟩) hb00 (by dsimp only; omega) (.int .u64 (lo (kL f x0 x1)))) (by dsimp only; omega) (.int .u64 (hi (kL f x0 x1)))
        generalize (w5.setCell ⟨ga, k * 2, none⟩ (.int .u64 (lo (kL f x0 x1)))).setCell ⟨ga, k * 2 + 1, none⟩ (.int .u64 (hi (kL f x0 x1))) = w7 at ra rb hT hb00 ⊢
        replace HPL : Hid ((P.set k (kL f x0 x1)).length = N) := by show _ = _; rw [List.length_set]; exact HPL.out
        generalize P.set k (kL f x0 x1) = P2 at *
        clear P c0 c1 f0 f1 g9 g5 g6 g7 g8 hq hqe hql y9
        obtain ⟨P, hP9⟩ : ∃ P : KL f, P = P2 := ⟨_, rfl⟩
        subst hP9
        by_cases hm0 : 0 < m.length
        · obtain ⟨q2, hq2⟩ : ∃ q : Nat, (k : Int).tmod (m.length : Int) = (q : Int) := ⟨((k : Int) % (m.length : Int)).toNat, by rw [Int.tmod_eq_emod_of_nonneg g1]; have := Int.emod_nonneg (k : Int) (show (m.length : Int) ≠ 0 by omega); omega⟩
          have hq3 : q2 < m.length := by
            have h1 := Int.emod_lt_of_pos (k : Int) (show (0 : Int) < (m.length : Int) by omega)
            rw [← Int.tmod_eq_emod_of_nonneg g1, hq2] at h1
            omega
          have hq4 : (k : Int) % (m.length : Int) = (q2 : Int) := by rw [← hq2, Int.tmod_eq_emod_of_nonneg g1]
          obtain ⟨b, o, hBe, hbw, hrow⟩ := HB.out hm0
          obtain ⟨⟨x0, x1⟩, he⟩ : ∃ e, m[q2]? = some e := ⟨_, List.getElem?_eq_getElem hq3⟩
          obtain ⟨hx0, hx1, hx2, hx3⟩ := HOKM.out _ (List.mem_of_getElem? he)
          obtain ⟨c0, c1⟩ := (hrow.below hb00 hbw) q2 _ he
          dsimp only at hx0 hx1 hx2 hx3 c0 c1
          subst hBe
          have g5 : (0 : Int) ≤ (q2 : Int) := by omega
          have g6 : (q2 : Int) < (m.length : Int) := by omega
          have g7 : ((m.length : Int) == 0) = false := by rw [beq_eq_false_iff_ne]; omega
          have g8 : ¬ (m.length = 0) := by omega
          clear he hrow
          go_wp2_with fail
          refine (HOF.out x0 x1 _ hx0 hx1 hx2 hx3).mono ?_
          rintro e w6 ⟨rfl, hb6⟩
          clear c0 c1
          replace hb00 := bl_call hb00 (Nat.le_refl _) hb6
          replace hT := hT.call hb6
          replace ra := ra.call hb6
          replace rb := rb.call hb6
          clear hb6
          obtain ⟨y9, hy9⟩ : ∃ x, Q[k]? = some x := ⟨_, List.getElem?_eq_getElem (by have := HQL.out; omega)⟩
          obtain ⟨c0, c1⟩ := rb.at hy9
          obtain ⟨f0, f1⟩ := rb.frz (i := k) (by have := HQL.out; omega)
          have g9 := rb.lt
          clear hy9
          go_wp2_with fail
          go_roundw
          case rel => exact ⟨k + 1, _, _, by omega, by go_num, ⟨HPL.out, by rw [List.length_set]; exact HQL.out⟩, (ra.far (by dsimp only; omega) _).far (by dsimp only; omega) _, rb.set k (by have := HQL.out; omega) (kL f x0 x1), (hT.st (by dsimp only; omega) _).st (by dsimp only; omega) _, by repeat (first | exact Below.refl _ _ | with_reducible assumption | (refine bl_alloc ?_ (Nat.le_refl _) _) | (refine bl_set ?_ (by dsimp only; omega) _) | (refine Below.drew ?_) | (refine bl_drewN ?_ _) | (refine bl_call ?_ (Nat.le_refl _) (by assumption)))⟩
          case measure => simp [intOf]; omega
        · have t7 : ¬ (0 < m.length) := hm0
          go_wp2_with fail
          go_roundw
          case rel => exact ⟨k + 1, _, _, by omega, by go_num, ⟨HPL.out, HQL.out⟩, ra, rb, hT, hb00⟩
          case measure => simp [intOf]; omega
      · have t6 : ¬ (0 < l.length) := hl0
        by_cases hm0 : 0 < m.length
        · obtain ⟨q2, hq2⟩ : ∃ q : Nat, (k : Int).tmod (m.length : Int) = (q : Int) := ⟨((k : Int) % (m.length : Int)).toNat, by rw [Int.tmod_eq_emod_of_nonneg g1]; have := Int.emod_nonneg (k : Int) (show (m.length : Int) ≠ 0 by omega); omega⟩
          have hq3 : q2 < m.length := by
            have h1 := Int.emod_lt_of_pos (k : Int) (show (0 : Int) < (m.length : Int) by omega)
            rw [← Int.tmod_eq_emod_of_nonneg g1, hq2] at h1
            omega
          have hq4 : (k : Int) % (m.length : Int) = (q2 : Int) := by rw [← hq2, Int.tmod_eq_emod_of_nonneg g1]
          obtain ⟨b, o, hBe, hbw, hrow⟩ := HB.out hm0
          obtain ⟨⟨x0, x1⟩, he⟩ : ∃ e, m[q2]? = some e := ⟨_, List.getElem?_eq_getElem hq3⟩
          obtain ⟨hx0, hx1, hx2, hx3⟩ := HOKM.out _ (List.mem_of_getElem? he)
          obtain ⟨c0, c1⟩ := (hrow.below hb00 hbw) q2 _ he
          dsimp only at hx0 hx1 hx2 hx3 c0 c1
          subst hBe
          have g5 : (0 : Int) ≤ (q2 : Int) := by omega
          have g6 : (q2 : Int) < (m.length : Int) := by omega
          have g7 : ((m.length : Int) == 0) = false := by rw [beq_eq_false_iff_ne]; omega
          have g8 : ¬ (m.length = 0) := by omega
          clear he hrow
          go_wp2_with fail
          refine (HOF.out x0 x1 _ hx0 hx1 hx2 hx3).mono ?_
          rintro e w6 ⟨rfl, hb6⟩
          clear c0 c1
          replace hb00 := bl_call hb00 (Nat.le_refl _) hb6
          replace hT := hT.call hb6
          replace ra := ra.call hb6
          replace rb := rb.call hb6
          clear hb6
          obtain ⟨y9, hy9⟩ : ∃ x, Q[k]? = some x := ⟨_, List.getElem?_eq_getElem (by have := HQL.out; omega)⟩
          obtain ⟨c0, c1⟩ := rb.at hy9
          obtain ⟨f0, f1⟩ := rb.frz (i := k) (by have := HQL.out; omega)
          have g9 := rb.lt
          clear hy9
          go_wp2_with fail
          go_roundw
          case rel => exact ⟨k + 1, _, _, by omega, by go_num, ⟨HPL.out, by rw [List.length_set]; exact HQL.out⟩, (ra.far (by dsimp only; omega) _).far (by dsimp only; omega) _, rb.set k (by have := HQL.out; omega) (kL f x0 x1), (hT.st (by dsimp only; omega) _).st (by dsimp only; omega) _, by repeat (first | exact Below.refl _ _ | with_reducible assumption | (refine bl_alloc ?_ (Nat.le_refl _) _) | (refine bl_set ?_ (by dsimp only; omega) _) | (refine Below.drew ?_) | (refine bl_drewN ?_ _) | (refine bl_call ?_ (Nat.le_refl _) (by assumption)))⟩
          case measure => simp [intOf]; omega
        · have t7 : ¬ (0 < m.length) := hm0
          go_wp2_with fail
          go_roundw
          case rel => exact ⟨k + 1, _, _, by omega, by go_num, ⟨HPL.out, HQL.out⟩, ra, rb, hT, hb00⟩
          case measure => simp [intOf]; omega
    · obtain rfl : k = N := by omega
      have HPL : Hid (P.length = k) := hPQ.out.1
      have HQL : Hid (Q.length = k) := hPQ.out.2
      have sp := ra.sl2 HPL.out (by omega)
      have sq := rb.sl2 HQL.out (by omega)
      have HAL : Hid ((addL P Q).length = k) := by show _ = _; rw [addL_length _ _ (by rw [HPL.out, HQL.out]), HPL.out]
      have HVP := Lib.hid (HVL.out P)
      have HVQ := Lib.hid (HVL.out Q)
      have HVS := Lib.hid (HVL.out (addL P Q))
      have HE1 := Lib.hid (HVA.out P Q (by rw [HPL.out, HQL.out]))
      have HE2 := Lib.hid (HBK.out P HPL.out)
      clear hPQ ra rb
      go_wp2_with fail
      refine (HV.out _ P HPL.out _ hT sp).mono ?_
      rintro e w3 ⟨g1, rfl, hR, _, hb3⟩
      rw [HVP.out]
      replace hb00 := bl_call hb00 (Nat.le_refl _) hb3
      replace hT := hT.call hb3
      replace sp := sp.later hb3
      replace sq := sq.later hb3
      have sa := hR.sl2 HVP.out (by omega)
      clear hR hb3
      go_wp2_with fail
      refine (HV.out _ Q HQL.out _ hT sq).mono ?_
      rintro e w4 ⟨g2, rfl, hR, _, hb4⟩
      rw [HVQ.out]
      replace hb00 := bl_call hb00 (Nat.le_refl _) hb4
      replace hT := hT.call hb4
      replace sp := sp.later hb4
      replace sq := sq.later hb4
      replace sa := sa.later hb4
      have sb := hR.sl2 HVQ.out (by omega)
      clear hR hb4
      go_wp2_with fail
      refine (HADD.out _ _ P Q _ sp sq HPL.out HQL.out).mono ?_
      rintro e w5 ⟨g3, rfl, hR, _, hb5⟩
      rw [HAL.out]
      replace hb00 := bl_call hb00 (Nat.le_refl _) hb5
      replace hT := hT.call hb5
      replace sp := sp.later hb5
      replace sq := sq.later hb5
      replace sa := sa.later hb5
      replace sb := sb.later hb5
      have ss := hR.rw.sl2 HAL.out (by omega)
      clear hR hb5
      clear sq
      go_wp2_with fail
      refine (HV.out _ (addL P Q) HAL.out _ hT ss).mono ?_
      rintro e w6 ⟨g4, rfl, hR, _, hb6⟩
      rw [HVS.out]
      replace hb00 := bl_call hb00 (Nat.le_refl _) hb6
      replace hT := hT.call hb6
      replace sp := sp.later hb6
      replace sa := sa.later hb6
      replace sb := sb.later hb6
      replace ss := ss.later hb6
      have sc := hR.sl2 HVS.out (by omega)
      clear hR hb6 ss
      go_wp2_with fail
      refine (HADD.out _ _ (valsK L P) (valsK L Q) _ sa sb HVP.out HVQ.out).mono ?_
      rintro e w7 ⟨g5, rfl, hR, _, hb7⟩
      have HAB : Hid ((addL (valsK L P) (valsK L Q)).length = k) := by show _ = _; rw [addL_length _ _ (by rw [HVP.out, HVQ.out]), HVP.out]
      rw [HAB.out]
      replace hb00 := bl_call hb00 (Nat.le_refl _) hb7
      replace hT := hT.call hb7
      replace sp := sp.later hb7
      replace sa := sa.later hb7
      replace sb := sb.later hb7
      replace sc := sc.later hb7
      have sd := hR.rw.sl2 HAB.out (by omega)
      clear hR hb7 sb
      go_wp2_with fail
      refine (HC.out _ (valsK L P) HVP.out _ hT sa).mono ?_
      rintro e w8 ⟨g6, rfl, hR, _, hb8⟩
      rw [HE2.out] at hR ⊢
      rw [HPL.out]
      replace hb00 := bl_call hb00 (Nat.le_refl _) hb8
      replace hT := hT.call hb8
      replace sp := sp.later hb8
      replace sa := sa.later hb8
      replace sc := sc.later hb8
      replace sd := sd.later hb8
      have se := hR.sl2 HPL.out (by omega)
      clear hR hb8 sa
      go_wp2_with fail
      refine (ref_Same_eq _ _ _ _ _ sc.toE sd.toE (by
        have h := HE1.out
        unfold valsK
        rw [hHN.out, h])).mono ?_
      rintro e w9 ⟨rfl, hb9⟩
      replace hb00 := bl_call hb00 (Nat.le_refl _) hb9
      replace sp := sp.later hb9
      replace sc := sc.later hb9
      replace sd := sd.later hb9
      replace se := se.later hb9
      clear hb9
      go_wp2_with fail
      refine (ref_Same_eq _ _ _ _ _ se.toE sp.toE rfl).mono ?_
      rintro e w10 ⟨rfl, hb10⟩
      replace hb00 := bl_call hb00 (Nat.le_refl _) hb10
      go_wp2_with fail
      go_ret
      exact ⟨rfl, hb00⟩

end Go.Proofs.YtfhmineolncefaaDoor
