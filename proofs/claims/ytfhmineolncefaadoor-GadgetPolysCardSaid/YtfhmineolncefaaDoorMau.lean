/-
  WALK: tallymanlaw04.NttBack.
-/
/-
  WALKS: tallymanlaw05.some, Awake.
-/
/-
  WALK: field.Pow.
-/
/-
  WALK: poly.Weights.
-/
/-
  WALK: field.pair of products, field.Dot.
-/
/-
  WALK: poly.Lagrange.
-/
/-
  THE LISTED VARIABLES of this seat's rows: what the condition gives the walks; a world that meets it.
-/
import Derived.Test.YtfhmineolncefaaDoorMat
import Derived.Test.YtfhmineolncefaaDoorMap
import Derived.Test.YtfhmineolncefaaDoorMag
import Derived.Test.YtfhmineolncefaaDoorMaq
import Derived.Test.YtfhmineolncefaaDoorMar
import Derived.Test.YtfhmineolncefaaDoorMal
import Derived.Test.YtfhmineolncefaaDoorMan
import Derived.Test.YtfhmineolncefaaDoorRows
import Derived.Test.YtfhmineolncefaaDoorTie
import Derived.Test.YtfhmineolncefaaDoorMai
import Derived.ProofKit
import Derived.LaidMore
import Derived.OpenShut
import Derived.Stop.Joined
namespace Go.Proofs.YtfhmineolncefaaDoor
open Go.RowKit Fm
set_option linter.unusedVariables false
set_option maxRecDepth 100000

theorem TabW.st {w : World} (h : TabW w) {p : Addr} (hp : p.block ≠ 1) (x : Value) : TabW (w.setCell p x) :=
  ⟨fun j hj => by
    have hk : (w.setCell p x).heap[1]? = w.heap[1]? := Below.heap_setCell w p x _ (fun e => hp e.symm)
    exact (World.cell?_of_block (w := w) (a := ⟨1, j, none⟩) hk).trans (h.tab j hj), by simpa [World.setCell] using h.lt⟩

/-- sums go along -/
theorem vals_addL {f : Nat} (r : Fin (Pm f)) (n : Nat) (p q : KL f) (hl : p.length = q.length) : vals r n (addL p q) = addL (vals r n p) (vals r n q) := by
  refine List.ext_getElem ?_ fun i h1 h2 => ?_
  · rw [addL_length _ _ (by unfold vals; rw [ofF_length, ofF_length])]
    unfold vals
    rw [ofF_length, ofF_length]
  · have hadd : ∀ (p q : KL f), p.length = q.length → ∀ x, ev x (addL p q) = ev x p + ev x q := by
      intro p
      induction p with
      | nil =>
        intro q h x
        obtain rfl := List.length_eq_zero_iff.1 h.symm
        show (0 : Fin (Pm f)) = 0 + 0
        grind
      | cons a p ih =>
        intro q h x
        cases q with
        | nil => simp at h
        | cons b q =>
          show ev x ((a + b) :: addL p q) = _
          rw [ev_cons, ev_cons, ev_cons, ih q (by simpa using h) x]
          grind
    simp [vals, ofF, addL]
    exact hadd p q hl _

set_option maxHeartbeats 8000000 in
theorem walk_NttBack (n : Int) (vl vm : Value) (more : Int) (l m : List E) (w : World) (hT : TabW w) (hn : 0 ≤ n ∧ n ≤ 255) (hl : SlE w w.heap.size vl l) (hm : SlE w w.heap.size vm m) (hmo : 0 ≤ more ∧ more ≤ 255) :
    Calls Tryd.prog 3 #[.int .u8 n, vl, vm, .int .u8 more] w fun e w' => e = .returned (.bool true) ∧ Below w.heap.size w w' := by
  obtain ⟨f, hf, hF⟩ := law03_FN n hn.1 hn.2
  have HF := Lib.hid hF
  have HAW := Lib.hid (fun wz h => law04_Awake wz h)
  have htl := hT.lt
  obtain ⟨L, hL7, hLm⟩ : ∃ L : Nat, L ≤ 7 ∧ more.tmod 8 = (L : Int) := ⟨(more % 8).toNat, by omega, by rw [Int.tmod_eq_emod_of_nonneg hmo.1]; omega⟩
  have hLm2 : more % 8 = (L : Int) := by rw [← hLm, Int.tmod_eq_emod_of_nonneg hmo.1]
  have hp : 2 ^ L ≤ 2 ^ 7 := Nat.pow_le_pow_right (by omega) hL7
  have hp0 := Nat.two_pow_pos L
  have hpi : (2 : Int) ^ L = ((2 ^ L : Nat) : Int) := by rw [Int.natCast_pow]; rfl
  have HOF := Lib.hid (fun a0 a1 wz h0 h1 k0 k1 => ref_OfL hf a0 a1 wz h0 h1 k0 k1)
  have HL0 := Lib.hid hl
  have HM0 := Lib.hid hm
  have HV := Lib.hid (fun v (p : KL f) (hpl : p.length = 2 ^ L) wz hT hs => ntt_Values hf L (by omega) v p hpl wz hT hs)
  have HC := Lib.hid (fun v (q : KL f) (hq : q.length = 2 ^ L) wz hT hs => ntt_Coefs hf L (by omega) v q hq wz hT hs)
  have HADD := Lib.hid (fun va vb (a b : KL f) wz ha hb (h1 : a.length = 2 ^ L) (h2 : b.length = 2 ^ L) => field_AddVecK hf va vb a b wz ha hb (by omega) (by omega))
  have HBK := Lib.hid (fun (p : KL f) (hp : p.length = 2 ^ L) => coefsK_vals (f := f) (L := L) (by omega) p hp)
  have HVL := Lib.hid (fun (p : KL f) => valsK_length L p)
  have HVA := Lib.hid (fun (p q : KL f) (h : p.length = q.length) => vals_addL (rootK f L) (2 ^ L) p q h)
  have hmk := make_elem (2 ^ L) (by omega)
  have hfb0 : (1 : Int) ≤ (f : Int) := by rcases hf.or with rfl | rfl <;> omega
  have hfb1 : (f : Int) ≤ 2 := by rcases hf.or with rfl | rfl <;> omega
  have hL64 : (L : Int) < 64 := by omega
  obtain ⟨⟨A, c, rfl, _, _, hA⟩, hok⟩ := hl
  obtain ⟨⟨B, d, rfl, _, _, hB⟩, hokm⟩ := hm
  have HA := Lib.hid hA
  have HB := Lib.hid hB
  have HOK := Lib.hid hok
  have HOKM := Lib.hid hokm
  clear hA hB hok hokm hn hL7
  obtain ⟨N, hN⟩ : ∃ N, 2 ^ L = N := ⟨_, rfl⟩
  have hHN := Lib.hid hN
  rw [hN] at hp hp0 hpi hmk HV HC HADD HBK HVL HVA
  clear hN
  have hb00 : Below w.heap.size w w := Below.refl _ _
  go_enter Tryd.func3, Tryd.ntmps3
  go_wp2_with fail
  refine (HAW.out _ hT).mono ?_
  rintro e w1 ⟨rfl, hb1⟩
  replace hb00 := bl_call hb00 (Nat.le_refl _) hb1
  replace hT := hT.call hb1
  clear hb1
  go_upto_region 5 with (first
    | (go_at_call 16; refine (HF.out _).mono ?_; rintro e wq ⟨rfl, rfl⟩))
  apply region_G2 (n := 5) (m := 6) (f := 5) ((fun ga gb wz => Below w1.heap.size w1 wz ∧ (w1.heap.size ≤ ga ∧ RwK wz ga (List.replicate N (0 : Fin (Pm f)))) ∧ (w1.heap.size ≤ gb ∧ RwK wz gb (List.replicate N (0 : Fin (Pm f)))) ∧ ga ≠ gb))
  case hm => kernel_rfl
  case hB => kernel_rfl
  case hf => rfl
  case' h =>
    refine WpG.takeD 0 (some 37) (v := ?_) rfl rfl (by kernel_rfl) (fun _ _ _ h => h) (.val rfl (fun wz hwz => ?_)) ?_
    rotate_left
    · go_simp; try (with_reducible rfl)
    (simp only [Act.put]); (try simp only [List.setIfInBounds_toArray]); (try simp only [List.set_cons_succ]); (try simp only [List.set_cons_zero])
    refine WpG.takeD 2 (some 39) (v := ?_) rfl rfl (by kernel_rfl) (fun _ _ _ h => h) (.val rfl (fun wz hwz => ?_)) ?_
    rotate_left
    · go_simp; try (with_reducible rfl)
    (simp only [Act.put]); (try simp only [List.setIfInBounds_toArray]); (try simp only [List.set_cons_succ]); (try simp only [List.set_cons_zero])
    refine WpG.twoD 1 3 (some 38) (some 40) rfl rfl rfl rfl (by kernel_rfl) (fun b : Nat => Value.slice (some ⟨b, 0, none⟩) N N) (fun b wz => w1.heap.size ≤ b ∧ RwK wz b (List.replicate N (0 : Fin (Pm f)))) (fun _ _ _ h hb => ⟨h.1, h.2.call hb⟩) (Fresh.slice N N (cellsE (List.replicate N (0, 0))) 28 rfl (fun wz hwz => (hwz).size) (fun wz hwz => by go_simp; try (with_reducible rfl)) (R := fun b wz => RwK wz b (List.replicate N (0 : Fin (Pm f)))) (fun wz hwz => RwK.new wz _ _ (by unfold esK; rw [List.map_replicate, eK_zero]) _)) (fun b : Nat => Value.slice (some ⟨b, 0, none⟩) N N) (fun b wz => w1.heap.size ≤ b ∧ RwK wz b (List.replicate N (0 : Fin (Pm f)))) (fun _ _ _ h hb => ⟨h.1, h.2.call hb⟩) (Fresh.slice N N (cellsE (List.replicate N (0, 0))) 28 rfl (fun wz hwz => (hwz).size) (fun wz hwz => by go_simp; try (with_reducible rfl)) (R := fun b wz => RwK wz b (List.replicate N (0 : Fin (Pm f)))) (fun wz hwz => RwK.new wz _ _ (by unfold esK; rw [List.map_replicate, eK_zero]) _)) (fun ga w0ga hw0ga hR0ga => ?rg5_3a) (fun gb w0gb hw0gb hR0gb => ?rg5_3b)
    case' rg5_3a =>
      (simp only [Act.put]); (try simp only [List.setIfInBounds_toArray]); (try simp only [List.set_cons_succ]); (try simp only [List.set_cons_zero])
      refine WpG.takeD 4 (some 12) (v := ?_) rfl rfl (by kernel_rfl) (fun _ _ _ h => h) (.val rfl (fun wz hwz => ?_)) ?_
      rotate_left
      · go_simp; try (with_reducible rfl)
      (simp only [Act.put]); (try simp only [List.setIfInBounds_toArray]); (try simp only [List.set_cons_succ]); (try simp only [List.set_cons_zero])
      refine WpG.oneD 3 (some 40) rfl rfl (by kernel_rfl) (fun b : Nat => Value.slice (some ⟨b, 0, none⟩) N N) (fun b wz => ga + 1 ≤ b ∧ RwK wz b (List.replicate N (0 : Fin (Pm f)))) (fun _ _ _ h hb => ⟨h.1, h.2.call hb⟩) (Fresh.slice N N (cellsE (List.replicate N (0, 0))) 28 rfl (fun wz hwz => (hwz.2).2.lt) (fun wz hwz => by go_simp; try (with_reducible rfl)) (R := fun b wz => RwK wz b (List.replicate N (0 : Fin (Pm f)))) (fun wz hwz => RwK.new wz _ _ (by unfold esK; rw [List.map_replicate, eK_zero]) _)) (fun gb w0gb hw0gb hR0gb => ?_)
      (simp only [Act.put]); (try simp only [List.setIfInBounds_toArray]); (try simp only [List.set_cons_succ]); (try simp only [List.set_cons_zero])
      refine WpG.done (by kernel_rfl) (fun w2 hS => ⟨ga, gb, rfl, ?_⟩)
      · (obtain ⟨⟨h1, h2, h2'⟩, h3, h3'⟩ := hS; first | exact ⟨h1, ⟨h2, h2'⟩, ⟨by omega, h3'⟩, by omega⟩ | exact ⟨h1, ⟨by omega, h3'⟩, ⟨h2, h2'⟩, by omega⟩)
    case' rg5_3b =>
      (simp only [Act.put]); (try simp only [List.setIfInBounds_toArray]); (try simp only [List.set_cons_succ]); (try simp only [List.set_cons_zero])
      refine WpG.oneD 1 (some 38) rfl rfl (by kernel_rfl) (fun b : Nat => Value.slice (some ⟨b, 0, none⟩) N N) (fun b wz => gb + 1 ≤ b ∧ RwK wz b (List.replicate N (0 : Fin (Pm f)))) (fun _ _ _ h hb => ⟨h.1, h.2.call hb⟩) (Fresh.slice N N (cellsE (List.replicate N (0, 0))) 28 rfl (fun wz hwz => (hwz.2).2.lt) (fun wz hwz => by go_simp; try (with_reducible rfl)) (R := fun b wz => RwK wz b (List.replicate N (0 : Fin (Pm f)))) (fun wz hwz => RwK.new wz _ _ (by unfold esK; rw [List.map_replicate, eK_zero]) _)) (fun ga w0ga hw0ga hR0ga => ?_)
      (simp only [Act.put]); (try simp only [List.setIfInBounds_toArray]); (try simp only [List.set_cons_succ]); (try simp only [List.set_cons_zero])
      refine WpG.takeD 4 (some 12) (v := ?_) rfl rfl (by kernel_rfl) (fun _ _ _ h => h) (.val rfl (fun wz hwz => ?_)) ?_
      rotate_left
      · go_simp; try (with_reducible rfl)
      (simp only [Act.put]); (try simp only [List.setIfInBounds_toArray]); (try simp only [List.set_cons_succ]); (try simp only [List.set_cons_zero])
      refine WpG.done (by kernel_rfl) (fun w2 hS => ⟨ga, gb, rfl, ?_⟩)
      · (obtain ⟨⟨h1, h2, h2'⟩, h3, h3'⟩ := hS; first | exact ⟨h1, ⟨h2, h2'⟩, ⟨by omega, h3'⟩, by omega⟩ | exact ⟨h1, ⟨by omega, h3'⟩, ⟨h2, h2'⟩, by omega⟩)
  intro ga gb w2 hS
  (try simp only [List.drop_succ_cons]); (try simp only [List.drop_zero]); (try simp only [Nat.reduceSub]); (try simp only [List.take_succ_cons]); (try simp only [List.take_zero])
  obtain ⟨hb2, ⟨hga, ra⟩, ⟨hgb, rb⟩, hgab⟩ := hS
  have hga2 := Nat.le_trans hb00.size hga
  have hgb2 := Nat.le_trans hb00.size hgb
  have hal := ra.lt
  have hbl := rb.lt
  replace hb00 := bl_call hb00 (Nat.le_refl _) hb2
  replace hT := hT.call hb2
  clear hb2 hga hgb hmk
  go_wp2_with fail
  go_loopw [42] (fun kv wr => ∃ (k : Nat) (P Q : KL f), k ≤ N ∧ kv = .int .i64 k ∧ Hid (P.length = N ∧ Q.length = N) ∧ RwK wr ga P ∧ RwK wr gb Q ∧ TabW wr ∧ Below w.heap.size w wr) (fun kv _ => N - (intOf kv).toNat)
  case atStart => exact ⟨0, _, _, Nat.zero_le _, rfl, ⟨List.length_replicate .., List.length_replicate ..⟩, ra, rb, hT, hb00⟩
  case round =>
    clear ra rb hT hb00 hal hbl
    obtain ⟨k, P, Q, hk, rfl, hPQ, ra, rb, hT, hb00⟩ := hrel
    by_cases hkN : k < N
    · have g1 : (0 : Int) ≤ (k : Int) := by omega
      have g3 : (k : Int) < (N : Int) := by omega
      have HPL : Hid (P.length = N) := hPQ.out.1
      have HQL : Hid (Q.length = N) := hPQ.out.2
      clear hPQ
      by_cases hl0 : 0 < l.length
      · obtain ⟨q, hq⟩ : ∃ q : Nat, (k : Int).tmod (l.length : Int) = (q : Int) := ⟨((k : Int) % (l.length : Int)).toNat, by rw [Int.tmod_eq_emod_of_nonneg g1]; have := Int.emod_nonneg (k : Int) (show (l.length : Int) ≠ 0 by omega); omega⟩
        have hql : q < l.length := by
          have h1 := Int.emod_lt_of_pos (k : Int) (show (0 : Int) < (l.length : Int) by omega)
          rw [← Int.tmod_eq_emod_of_nonneg g1, hq] at h1
          omega
        have hqe : (k : Int) % (l.length : Int) = (q : Int) := by rw [← hq, Int.tmod_eq_emod_of_nonneg g1]
        obtain ⟨b, o, hAe, hbw, hrow⟩ := HA.out hl0
        obtain ⟨⟨x0, x1⟩, he⟩ : ∃ e, l[q]? = some e := ⟨_, List.getElem?_eq_getElem hql⟩
        obtain ⟨hx0, hx1, hx2, hx3⟩ := HOK.out _ (List.mem_of_getElem? he)
        obtain ⟨c0, c1⟩ := (hrow.below hb00 hbw) q _ he
        dsimp only at hx0 hx1 hx2 hx3 c0 c1
        subst hAe
        have g5 : (0 : Int) ≤ (q : Int) := by omega
        have g6 : (q : Int) < (l.length : Int) := by omega
        have g7 : ((l.length : Int) == 0) = false := by rw [beq_eq_false_iff_ne]; omega
        have g8 : ¬ (l.length = 0) := by omega
        clear he hrow
        go_wp2_with fail
        refine (HOF.out x0 x1 _ hx0 hx1 hx2 hx3).mono ?_
        rintro e w5 ⟨rfl, hb5⟩
        clear c0 c1
        replace hb00 := bl_call hb00 (Nat.le_refl _) hb5
        replace hT := hT.call hb5
        replace ra := ra.call hb5
        replace rb := rb.call hb5
        clear hb5
        obtain ⟨y9, hy9⟩ : ∃ x, P[k]? = some x := ⟨_, List.getElem?_eq_getElem (by have := HPL.out; omega)⟩
        obtain ⟨c0, c1⟩ := ra.at hy9
        obtain ⟨f0, f1⟩ := ra.frz (i := k) (by have := HPL.out; omega)
        have g9 := ra.lt
        clear hy9
        go_upto_region 11 with fail
        replace ra := ra.set k (by have := HPL.out; omega) (kL f x0 x1)
        replace rb := (rb.far (p := ⟨ga, k * 2, none⟩) (by dsimp only; omega) (.int .u64 (lo (kL f x0 x1)))).far (p := ⟨ga, k * 2 + 1, none⟩) (by dsimp only; omega) (.int .u64 (hi (kL f x0 x1)))
        replace hT := (hT.st (p := ⟨ga, k * 2, none⟩) (by dsimp only; omega) (.int .u64 (lo (kL f x0 x1)))).st (p := ⟨ga, k * 2 + 1, none⟩) (by dsimp only; omega) (.int .u64 (hi (kL f x0 x1)))
        replace hb00 := bl_set (p := ⟨ga, k * 2 + 1, none⟩) (bl_set (p := ⟨ga, k * 2, none⟩) hb00 (by dsimp only; omega) (.int .u64 (lo (kL f x0 x1)))) (by dsimp only; omega) (.int .u64 (hi (kL f x0 x1)))
        generalize (w5.setCell ⟨ga, k * 2, none⟩ (.int .u64 (lo (kL f x0 x1)))).setCell ⟨ga, k * 2 + 1, none⟩ (.int .u64 (hi (kL f x0 x1))) = w7 at ra rb hT hb00 ⊢
        replace HPL : Hid ((P.set k (kL f x0 x1)).length = N) := by show _ = _; rw [List.length_set]; exact HPL.out
        generalize P.set k (kL f x0 x1) = P2 at *
        clear P c0 c1 f0 f1 g9 g5 g6 g7 g8 hq hqe hql y9
        obtain ⟨P, hP9⟩ : ∃ P : KL f, P = P2 := ⟨_, rfl⟩
        subst hP9
        by_cases hm0 : 0 < m.length
        · obtain ⟨q2, hq2⟩ : ∃ q : Nat, (k : Int).tmod (m.length : Int) = (q : Int) := ⟨((k : Int) % (m.length : Int)).toNat, by rw [Int.tmod_eq_emod_of_nonneg g1]; have := Int.emod_nonneg (k : Int) (show (m.length : Int) ≠ 0 by omega); omega⟩
          have hq3 : q2 < m.length := by
            have h1 := Int.emod_lt_of_pos (k : Int) (show (0 : Int) < (m.length : Int) by omega)
            rw [← Int.tmod_eq_emod_of_nonneg g1, hq2] at h1
            omega
          have hq4 : (k : Int) % (m.length : Int) = (q2 : Int) := by rw [← hq2, Int.tmod_eq_emod_of_nonneg g1]
          obtain ⟨b, o, hBe, hbw, hrow⟩ := HB.out hm0
          obtain ⟨⟨x0, x1⟩, he⟩ : ∃ e, m[q2]? = some e := ⟨_, List.getElem?_eq_getElem hq3⟩
          obtain ⟨hx0, hx1, hx2, hx3⟩ := HOKM.out _ (List.mem_of_getElem? he)
          obtain ⟨c0, c1⟩ := (hrow.below hb00 hbw) q2 _ he
          dsimp only at hx0 hx1 hx2 hx3 c0 c1
          subst hBe
          have g5 : (0 : Int) ≤ (q2 : Int) := by omega
          have g6 : (q2 : Int) < (m.length : Int) := by omega
          have g7 : ((m.length : Int) == 0) = false := by rw [beq_eq_false_iff_ne]; omega
          have g8 : ¬ (m.length = 0) := by omega
          clear he hrow
          go_wp2_with fail
          refine (HOF.out x0 x1 _ hx0 hx1 hx2 hx3).mono ?_
          rintro e w6 ⟨rfl, hb6⟩
          clear c0 c1
          replace hb00 := bl_call hb00 (Nat.le_refl _) hb6
          replace hT := hT.call hb6
          replace ra := ra.call hb6
          replace rb := rb.call hb6
          clear hb6
          obtain ⟨y9, hy9⟩ : ∃ x, Q[k]? = some x := ⟨_, List.getElem?_eq_getElem (by have := HQL.out; omega)⟩
          obtain ⟨c0, c1⟩ := rb.at hy9
          obtain ⟨f0, f1⟩ := rb.frz (i := k) (by have := HQL.out; omega)
          have g9 := rb.lt
          clear hy9
          go_wp2_with fail
          go_roundw
          case rel => exact ⟨k + 1, _, _, by omega, by go_num, ⟨HPL.out, by rw [List.length_set]; exact HQL.out⟩, (ra.far (by dsimp only; omega) _).far (by dsimp only; omega) _, rb.set k (by have := HQL.out; omega) (kL f x0 x1), (hT.st (by dsimp only; omega) _).st (by dsimp only; omega) _, by repeat (first | exact Below.refl _ _ | with_reducible assumption | (refine bl_alloc ?_ (Nat.le_refl _) _) | (refine bl_set ?_ (by dsimp only; omega) _) | (refine Below.drew ?_) | (refine bl_drewN ?_ _) | (refine bl_call ?_ (Nat.le_refl _) (by assumption)))⟩
          case measure => simp [intOf]; omega
        · have t7 : ¬ (0 < m.length) := hm0
          go_wp2_with fail
          go_roundw
          case rel => exact ⟨k + 1, _, _, by omega, by go_num, ⟨HPL.out, HQL.out⟩, ra, rb, hT, hb00⟩
          case measure => simp [intOf]; omega
      · have t6 : ¬ (0 < l.length) := hl0
        by_cases hm0 : 0 < m.length
        · obtain ⟨q2, hq2⟩ : ∃ q : Nat, (k : Int).tmod (m.length : Int) = (q : Int) := ⟨((k : Int) % (m.length : Int)).toNat, by rw [Int.tmod_eq_emod_of_nonneg g1]; have := Int.emod_nonneg (k : Int) (show (m.length : Int) ≠ 0 by omega); omega⟩
          have hq3 : q2 < m.length := by
            have h1 := Int.emod_lt_of_pos (k : Int) (show (0 : Int) < (m.length : Int) by omega)
            rw [← Int.tmod_eq_emod_of_nonneg g1, hq2] at h1
            omega
          have hq4 : (k : Int) % (m.length : Int) = (q2 : Int) := by rw [← hq2, Int.tmod_eq_emod_of_nonneg g1]
          obtain ⟨b, o, hBe, hbw, hrow⟩ := HB.out hm0
          obtain ⟨⟨x0, x1⟩, he⟩ : ∃ e, m[q2]? = some e := ⟨_, List.getElem?_eq_getElem hq3⟩
          obtain ⟨hx0, hx1, hx2, hx3⟩ := HOKM.out _ (List.mem_of_getElem? he)
          obtain ⟨c0, c1⟩ := (hrow.below hb00 hbw) q2 _ he
          dsimp only at hx0 hx1 hx2 hx3 c0 c1
          subst hBe
          have g5 : (0 : Int) ≤ (q2 : Int) := by omega
          have g6 : (q2 : Int) < (m.length : Int) := by omega
          have g7 : ((m.length : Int) == 0) = false := by rw [beq_eq_false_iff_ne]; omega
          have g8 : ¬ (m.length = 0) := by omega
          clear he hrow
          go_wp2_with fail
          refine (HOF.out x0 x1 _ hx0 hx1 hx2 hx3).mono ?_
          rintro e w6 ⟨rfl, hb6⟩
          clear c0 c1
          replace hb00 := bl_call hb00 (Nat.le_refl _) hb6
          replace hT := hT.call hb6
          replace ra := ra.call hb6
          replace rb := rb.call hb6
          clear hb6
          obtain ⟨y9, hy9⟩ : ∃ x, Q[k]? = some x := ⟨_, List.getElem?_eq_getElem (by have := HQL.out; omega)⟩
          obtain ⟨c0, c1⟩ := rb.at hy9
          obtain ⟨f0, f1⟩ := rb.frz (i := k) (by have := HQL.out; omega)
          have g9 := rb.lt
          clear hy9
          go_wp2_with fail
          go_roundw
          case rel => exact ⟨k + 1, _, _, by omega, by go_num, ⟨HPL.out, by rw [List.length_set]; exact HQL.out⟩, (ra.far (by dsimp only; omega) _).far (by dsimp only; omega) _, rb.set k (by have := HQL.out; omega) (kL f x0 x1), (hT.st (by dsimp only; omega) _).st (by dsimp only; omega) _, by repeat (first | exact Below.refl _ _ | with_reducible assumption | (refine bl_alloc ?_ (Nat.le_refl _) _) | (refine bl_set ?_ (by dsimp only; omega) _) | (refine Below.drew ?_) | (refine bl_drewN ?_ _) | (refine bl_call ?_ (Nat.le_refl _) (by assumption)))⟩
          case measure => simp [intOf]; omega
        · have t7 : ¬ (0 < m.length) := hm0
          go_wp2_with fail
          go_roundw
          case rel => exact ⟨k + 1, _, _, by omega, by go_num, ⟨HPL.out, HQL.out⟩, ra, rb, hT, hb00⟩
          case measure => simp [intOf]; omega
    · obtain rfl : k = N := by omega
      have HPL : Hid (P.length = k) := hPQ.out.1
      have HQL : Hid (Q.length = k) := hPQ.out.2
      have sp := ra.sl2 HPL.out (by omega)
      have sq := rb.sl2 HQL.out (by omega)
      have HAL : Hid ((addL P Q).length = k) := by show _ = _; rw [addL_length _ _ (by rw [HPL.out, HQL.out]), HPL.out]
      have HVP := Lib.hid (HVL.out P)
      have HVQ := Lib.hid (HVL.out Q)
      have HVS := Lib.hid (HVL.out (addL P Q))
      have HE1 := Lib.hid (HVA.out P Q (by rw [HPL.out, HQL.out]))
      have HE2 := Lib.hid (HBK.out P HPL.out)
      clear hPQ ra rb
      go_wp2_with fail
      refine (HV.out _ P HPL.out _ hT sp).mono ?_
      rintro e w3 ⟨g1, rfl, hR, _, hb3⟩
      rw [HVP.out]
      replace hb00 := bl_call hb00 (Nat.le_refl _) hb3
      replace hT := hT.call hb3
      replace sp := sp.later hb3
      replace sq := sq.later hb3
      have sa := hR.sl2 HVP.out (by omega)
      clear hR hb3
      go_wp2_with fail
      refine (HV.out _ Q HQL.out _ hT sq).mono ?_
      rintro e w4 ⟨g2, rfl, hR, _, hb4⟩
      rw [HVQ.out]
      replace hb00 := bl_call hb00 (Nat.le_refl _) hb4
      replace hT := hT.call hb4
      replace sp := sp.later hb4
      replace sq := sq.later hb4
      replace sa := sa.later hb4
      have sb := hR.sl2 HVQ.out (by omega)
      clear hR hb4
      go_wp2_with fail
      refine (HADD.out _ _ P Q _ sp sq HPL.out HQL.out).mono ?_
      rintro e w5 ⟨g3, rfl, hR, _, hb5⟩
      rw [HAL.out]
      replace hb00 := bl_call hb00 (Nat.le_refl _) hb5
      replace hT := hT.call hb5
      replace sp := sp.later hb5
      replace sq := sq.later hb5
      replace sa := sa.later hb5
      replace sb := sb.later hb5
      have ss := hR.rw.sl2 HAL.out (by omega)
      clear hR hb5
      clear sq
      go_wp2_with fail
      refine (HV.out _ (addL P Q) HAL.out _ hT ss).mono ?_
      rintro e w6 ⟨g4, rfl, hR, _, hb6⟩
      rw [HVS.out]
      replace hb00 := bl_call hb00 (Nat.le_refl _) hb6
      replace hT := hT.call hb6
      replace sp := sp.later hb6
      replace sa := sa.later hb6
      replace sb := sb.later hb6
      replace ss := ss.later hb6
      have sc := hR.sl2 HVS.out (by omega)
      clear hR hb6 ss
      go_wp2_with fail
      refine (HADD.out _ _ (valsK L P) (valsK L Q) _ sa sb HVP.out HVQ.out).mono ?_
      rintro e w7 ⟨g5, rfl, hR, _, hb7⟩
      have HAB : Hid ((addL (valsK L P) (valsK L Q)).length = k) := by show _ = _; rw [addL_length _ _ (by rw [HVP.out, HVQ.out]), HVP.out]
      rw [HAB.out]
      replace hb00 := bl_call hb00 (Nat.le_refl _) hb7
      replace hT := hT.call hb7
      replace sp := sp.later hb7
      replace sa := sa.later hb7
      replace sb := sb.later hb7
      replace sc := sc.later hb7
      have sd := hR.rw.sl2 HAB.out (by omega)
      clear hR hb7 sb
      go_wp2_with fail
      refine (HC.out _ (valsK L P) HVP.out _ hT sa).mono ?_
      rintro e w8 ⟨g6, rfl, hR, _, hb8⟩
      rw [HE2.out] at hR ⊢
      rw [HPL.out]
      replace hb00 := bl_call hb00 (Nat.le_refl _) hb8
      replace hT := hT.call hb8
      replace sp := sp.later hb8
      replace sa := sa.later hb8
      replace sc := sc.later hb8
      replace sd := sd.later hb8
      have se := hR.sl2 HPL.out (by omega)
      clear hR hb8 sa
      go_wp2_with fail
      refine (ref_Same_eq _ _ _ _ _ sc.toE sd.toE (by
        have h := HE1.out
        unfold valsK
        rw [hHN.out, h])).mono ?_
      rintro e w9 ⟨rfl, hb9⟩
      replace hb00 := bl_call hb00 (Nat.le_refl _) hb9
      replace sp := sp.later hb9
      replace sc := sc.later hb9
      replace sd := sd.later hb9
      replace se := se.later hb9
      clear hb9
      go_wp2_with fail
      refine (ref_Same_eq _ _ _ _ _ se.toE sp.toE rfl).mono ?_
      rintro e w10 ⟨rfl, hb10⟩
      replace hb00 := bl_call hb00 (Nat.le_refl _) hb10
      go_wp2_with fail
      go_ret
      exact ⟨rfl, hb00⟩

end Go.Proofs.YtfhmineolncefaaDoor

namespace Go.Proofs.YtfhmineolncefaaDoor
open Go.RowKit Fm
set_option linter.unusedVariables false
set_option maxRecDepth 100000

theorem awake05_mul : pmul (f := 1) [1, 1] [1, 1] = [1, 1 + 1, 1] := by decide +kernel
theorem awake05_len : (trim ([1, 1] : KL 1)).length = 2 := by decide +kernel

set_option maxHeartbeats 1000000 in
theorem law05_Awake (w : World) (hT : TabW w) : Calls Tryd.prog 28 #[] w fun e w' => e = .returned (.bool true) ∧ Below w.heap.size w w' := by
  have heq := eql_elem
  have hE : esK ([1, 1] : KL 1) = [(1, 0), (1, 0)] := by
    show [eK 1, eK 1] = _
    rw [eK_one]
  have hA : #[.int .u64 1, .int .u64 0, .int .u64 1, .int .u64 0] = (cellsE (esK ([1, 1] : KL 1))).toArray := by rw [hE]; rfl
  have hR := RwK.new (f := 1) w [1, 1] #[.int .u64 1, .int .u64 0, .int .u64 1, .int .u64 0] hA 28
  have hb1 : Below w.heap.size w (w.alloc (.cells #[.int .u64 1, .int .u64 0, .int .u64 1, .int .u64 0] 28)) := (Below.refl _ _).alloc (Nat.le_refl _) _
  have hR2 := RwK.new (f := 1) (w.alloc (.cells #[.int .u64 1, .int .u64 0, .int .u64 1, .int .u64 0] 28)) [1, 1] #[.int .u64 1, .int .u64 0, .int .u64 1, .int .u64 0] hA 28
  have hb2 := hb1.alloc (by rw [World.size_alloc]; omega) (.cells #[.int .u64 1, .int .u64 0, .int .u64 1, .int .u64 0] 28)
  replace hR := hR.call ((Below.refl _ _).alloc (Nat.le_refl _) (.cells #[.int .u64 1, .int .u64 0, .int .u64 1, .int .u64 0] 28))
  have hT1 := hT.call hb2
  have h := poly_Mul isF1 _ _ [1, 1] [1, 1] _ hT1 (hR.sl (n := 2) (c := 2) rfl (by omega) (by omega)) (hR2.sl (n := 2) (c := 2) rfl (by omega) (by omega)) (by decide) (by decide) (by rw [awake05_len]; omega)
  rw [awake05_mul] at h
  rw [World.size_alloc] at h
  have HV := Lib.hid h
  have HH := Lib.hid lohi2
  have HB2 := Lib.hid hb2
  clear hR hR2 h hT1 hT hE hA hb1 hb2
  go_enter Tryd.func28, Tryd.ntmps28
  go_wp2_with fail
  refine HV.out.mono ?_
  rintro e w1 ⟨v, rfl, ho, hb1⟩
  obtain ⟨g, cp, rfl⟩ := own_slice ho
  obtain ⟨hR, hg, _⟩ := own_rw ho
  obtain ⟨d0, d1⟩ := hR.at (i := 1) rfl
  rw [HH.out.1] at d0
  rw [HH.out.2] at d1
  simp only [Nat.one_mul, Nat.reduceAdd] at d0 d1
  have hb00 : Below w.heap.size w w1 := HB2.out.trans (hb1.mono HB2.out.size)
  clear ho hR hb1 hg
  go_wp2
  go_ret
  exact ⟨rfl, hb00⟩

/-- so many elements at most come back, in a row of their own -/
def RetSm (f most : Nat) (w : World) (e : Ending) (w' : World) : Prop := ∃ p : KL f, p.length ≤ most ∧ RetOwn p w e w'

section
variable {f : Nat} (hf : IsF f)
include hf

set_option maxHeartbeats 8000000 in
theorem law05_some (vl : Value) (l : List E) (most : Nat) (w : World) (hs : SlE w w.heap.size vl l) (hmo : most ≤ 1000) :
    Calls Tryd.prog 32 #[.int .i64 f, vl, .int .i64 most] w (RetSm f most w) := by
  have hfb0 : (1 : Int) ≤ (f : Int) := by rcases hf.or with rfl | rfl <;> omega
  have hfb1 : (f : Int) ≤ 2 := by rcases hf.or with rfl | rfl <;> omega
  have HOF := Lib.hid (fun a0 a1 wz h0 h1 k0 k1 => ref_OfL hf a0 a1 wz h0 h1 k0 k1)
  obtain ⟨⟨A, c, rfl, hc, hcm, hA⟩, hok⟩ := hs
  have HA := Lib.hid hA
  have HOK := Lib.hid hok
  clear hA hok
  have hb00 : Below w.heap.size w w := Below.refl _ _
  go_enter Tryd.func32, Tryd.ntmps32
  go_wp2
  go_loopw [7, 12] (fun vr iv wr => ∃ (k J : Nat) (P : KL f) (D : Option Addr) (cp : Nat), k ≤ l.length ∧ iv = .int .i64 k ∧ vr = .slice D J cp ∧ J ≤ k ∧ J ≤ most ∧ Hid (P.length = J) ∧ wr.ownsRow w.heap.size 28 2 (.slice D J cp) J (cellsE (esK P)) ∧ Below w.heap.size w wr) (fun _ iv _ => l.length - (intOf iv).toNat)
  case atStart => exact ⟨0, 0, [], none, 0, Nat.zero_le _, rfl, rfl, Nat.le_refl _, Nat.zero_le _, rfl, World.ownsRow_nil _ _ _ _, hb00⟩
  case round =>
    clear hb00
    obtain ⟨k, J, P, D, cp, hk, rfl, rfl, hJk, hJm, hP, hown, hb00⟩ := hrel
    have hsz := hb00.size
    by_cases hka : k < l.length
    · obtain ⟨b, o, hAe, hbw, hrow⟩ := HA.out (by omega)
      obtain ⟨⟨x0, x1⟩, he⟩ : ∃ e, l[k]? = some e := ⟨_, List.getElem?_eq_getElem (by omega)⟩
      obtain ⟨hx0, hx1, hx2, hx3⟩ := HOK.out _ (List.mem_of_getElem? he)
      obtain ⟨c0, c1⟩ := (hrow.below hb00 hbw) k _ he
      dsimp only at hx0 hx1 hx2 hx3 c0 c1
      subst hAe
      have g1 : (0 : Int) ≤ (k : Int) := by omega
      have g3 : (k : Int) < (l.length : Int) := by omega
      clear he hrow
      go_upto_region 5 with fail
      have z0 := V2.new wr (.int .u64 x0) (.int .u64 x1) 28
      have hbA : Below wr.heap.size wr (wr.alloc (.cells #[.int .u64 x0, .int .u64 x1] 28)) := by repeat (first | exact Below.refl _ _ | with_reducible assumption | (refine bl_alloc ?_ (Nat.le_refl _) _))
      replace hb00 := bl_call hb00 (Nat.le_refl _) hbA
      replace hown := own_call hown hbA
      clear hbA
      generalize wr.alloc (.cells #[.int .u64 x0, .int .u64 x1] 28) = w5 at hb00 hown z0 ⊢
      clear c0 c1
      have hsz5 := z0.lt
      by_cases hkm : k < most
      · skip
        obtain ⟨z00, z01, z02, z03, z04⟩ := V2.mk z0.c0 z0.c1 z0.f0 z0.f1 z0.lt
        go_upto_region 6 with fail
        go_wp2_with fail
        refine (HOF.out x0 x1 _ hx0 hx1 hx2 hx3).mono ?_
        rintro e w6 ⟨rfl, hb6⟩
        clear z00 z01 z02 z03 z04
        replace hb00 := bl_call hb00 (Nat.le_refl _) hb6
        replace hown := own_call hown hb6
        replace z0 := z0.call hb6
        clear hb6
        obtain ⟨y, hy⟩ : ∃ y, kL f x0 x1 = y := ⟨_, rfl⟩
        rw [hy]
        have hbA : Below w6.heap.size w6 (w6.alloc (.cells #[.int .u64 (lo y), .int .u64 (hi y)] 28)) := (Below.refl _ _).alloc (Nat.le_refl _) _
        have hE := BlkE.new w6 [eK y] #[.int .u64 (lo y), .int .u64 (hi y)] rfl
        have HOW := Lib.hid (own_call hown hbA)
        have HR1 := Lib.hid (show 0 < 1 → ∃ b o, (some ⟨w6.heap.size, 0, none⟩ : Option Addr) = some ⟨b, o, none⟩ ∧ RowE (w6.alloc (.cells #[.int .u64 (lo y), .int .u64 (hi y)] 28)) b o [eK y] from fun _ => ⟨_, _, rfl, hE.rowE⟩)
        have hk1 : J + 1 ≤ 1099511627776 := by omega
        have hbase : w.heap.size ≤ (w6.alloc (.cells #[.int .u64 (lo y), .int .u64 (hi y)] 28)).heap.size := by rw [World.size_alloc]; have := hb00.size; omega
        clear hown hE hbA hy
        go_upto_region 7 with (at_builtin; (refine wpList_append_E rfl (.tmp 20) (.tmp 24) rfl w.heap.size _ J (esK P) rfl HOW.out (some ⟨w6.heap.size, 0, none⟩) 1 1 [eK y] rfl rfl HR1.out hk1 hbase ?_; intro v2 w2 hown2 hg2 hat2; have hb2 : Below w.heap.size w w2 := (hb00.trans ((Below.refl _ _).alloc hb00.size _)).trans ((Below.refl _ _).grown hg2 hbase (fun q hq => (HOW.out.lt q hq).1)); obtain ⟨g2, cap2, hv2⟩ := own_slice hown2; rw [hv2]))
        rw [hv2, show esK P ++ [eK y] = esK (P ++ [y]) by rw [esK_append]; rfl] at hown2
        clear HOW HR1 hg2 hat2 hbase z0
        go_wp2_with fail
        go_roundw
        case rel => exact ⟨k + 1, J + 1, P ++ [y], _, cap2, by omega, by go_num, rfl, by omega, by omega, by show _ = _; rw [List.length_append, hP.out]; rfl, hown2, hb2⟩
        case measure => simp [intOf]; omega
      · clear z0
        go_wp2_with fail
        go_roundw
        case rel => exact ⟨k + 1, J, P, D, cp, by omega, by go_num, rfl, by omega, hJm, hP, hown, hb00⟩
        case measure => simp [intOf]; omega
    · obtain hkE : k = l.length := by omega
      subst hkE
      go_wp2_with fail
      go_ret
      exact ⟨P, by rw [hP.out]; exact hJm, _, rfl, by rw [hP.out]; exact hown, hb00⟩
end

end Go.Proofs.YtfhmineolncefaaDoor

namespace Go.Proofs.YtfhmineolncefaaDoor
open Go.RowKit Fm
set_option linter.unusedVariables false
set_option maxRecDepth 100000

theorem gold_PowL (a0 a1 : Int) (ha : okE (a0, a1)) (n : Nat) (hn : n ≤ 18446744073709551615) (w : World) : Calls Tryd.prog 99 #[.int .u64 a0, .int .u64 n] w fun e w' => e = .returned (.int .u64 (lo (Fm.kpow (kL 1 a0 a1) n))) ∧ w = w' := by
  have hp : ((Pm 1 : Nat) : Int) = 18446744069414584321 := rfl
  have h := gold_Pow a0 (n : Int) w ha.1 ha.2.1 (by omega) (by omega)
  have hk : kI (Pm 1) (ipow a0 n) = Fm.kpow (kL 1 a0 a1) n := by
    clear h hn
    induction n with
    | zero => exact kI_one
    | succ n ih =>
      rw [ipow, kI_mul, ih, Fm.kpow_succ]
      rfl
  rwa [Int.toNat_natCast, ← hp, ← val_kI, hk, ← (lo_small (Fm.kpow (kL 1 a0 a1) n)).1] at h

set_option maxHeartbeats 4000000 in
theorem field_PowL {f : Nat} (hf : IsF f) (a0 a1 : Int) (ha : okE (a0, a1)) (n : Nat) (hn : n ≤ 18446744073709551615) (w : World) :
    Calls Tryd.prog 77 #[.int .u8 f, .agg #[.int .u64 a0, .int .u64 a1], .int .u64 n] w (RetK (Fm.kpow (kL f a0 a1) n) w) := by
  rcases hf.or with rfl | rfl
  · have HG := Lib.hid (fun wz => gold_PowL a0 a1 ha n hn wz)
    have HH : Hid (hi (Fm.kpow (kL 1 a0 a1) n) = 0) := (lo_small _).2
    obtain ⟨y, hy⟩ : ∃ y, Fm.kpow (kL 1 a0 a1) n = y := ⟨_, rfl⟩
    rw [hy] at HG HH ⊢
    clear hy
    go_enter Tryd.func77, Tryd.ntmps77
    go_upto_region 1 with fail
    have q0 := (V2.new w (.int .u64 a0) (.int .u64 a1) 28).alloc (.cells #[(.int .u64 0), (.int .u64 0)] 28)
    have s0 := V2.new (w.alloc (.cells #[(.int .u64 a0), (.int .u64 a1)] 28)) (.int .u64 0) (.int .u64 0) 28
    simp only [World.size_alloc] at s0
    have hb00 : Below w.heap.size w ((w.alloc (.cells #[(.int .u64 a0), (.int .u64 a1)] 28)).alloc (.cells #[(.int .u64 0), (.int .u64 0)] 28)) := by repeat (first | exact Below.refl _ _ | with_reducible assumption | (refine bl_alloc ?_ (Nat.le_refl _) _))
    have hsz : w.heap.size + 2 ≤ ((w.alloc (.cells #[(.int .u64 a0), (.int .u64 a1)] 28)).alloc (.cells #[(.int .u64 0), (.int .u64 0)] 28)).heap.size := by simp only [World.size_alloc]; omega
    generalize ((w.alloc (.cells #[(.int .u64 a0), (.int .u64 a1)] 28)).alloc (.cells #[(.int .u64 0), (.int .u64 0)] 28)) = w1 at q0 s0 hb00 hsz ⊢
    obtain ⟨q00, q01, q02, q03, q04⟩ := V2.mk q0.c0 q0.c1 q0.f0 q0.f1 q0.lt
    obtain ⟨s00, s01, s02, s03, s04⟩ := V2.mk s0.c0 s0.c1 s0.f0 s0.f1 s0.lt
    go_wp2_with fail
    refine (HG.out _).mono ?_
    rintro e w3 ⟨rfl, rfl⟩
    go_wp2_with fail
    refine bodyPost_ret (results_v2 (b := w.heap.size + 1) (u := .int .u64 (lo y)) (v := .int .u64 0) ?_ rfl rfl) rfl ?_
    · exact V2.set s0 _ _
    · exact ⟨by rw [← HH.out], by repeat (first | exact Below.refl _ _ | with_reducible assumption | (refine bl_alloc ?_ (Nat.le_refl _) _) | (refine bl_set ?_ (by dsimp only; omega) _) | (refine Below.drew ?_) | (refine bl_drewN ?_ _) | (refine bl_call ?_ (Nat.le_refl _) (by assumption)))⟩
  · have HI : Hid (∀ wz, Calls Tryd.prog 100 #[.agg #[.int .u64 a0, .int .u64 a1], .agg #[.int .u64 n, .int .u64 0]] wz (RetK (Fm.kpow (kL 2 a0 a1) n) wz)) := fun wz => by
      have h := wide_Pow a0 a1 n 0 wz ha.1 ha.2.1 ha.2.2.1 ha.2.2.2 hn (by omega)
      rw [Nat.mul_zero, Nat.add_zero, kpw_fm] at h
      exact h
    obtain ⟨y, hy⟩ : ∃ y, Fm.kpow (kL 2 a0 a1) n = y := ⟨_, rfl⟩
    rw [hy] at HI ⊢
    clear hy
    go_enter Tryd.func77, Tryd.ntmps77
    go_upto_region 1 with fail
    have q0 := (V2.new w (.int .u64 a0) (.int .u64 a1) 28).alloc (.cells #[(.int .u64 0), (.int .u64 0)] 28)
    have s0 := V2.new (w.alloc (.cells #[(.int .u64 a0), (.int .u64 a1)] 28)) (.int .u64 0) (.int .u64 0) 28
    simp only [World.size_alloc] at s0
    have hb00 : Below w.heap.size w ((w.alloc (.cells #[(.int .u64 a0), (.int .u64 a1)] 28)).alloc (.cells #[(.int .u64 0), (.int .u64 0)] 28)) := by repeat (first | exact Below.refl _ _ | with_reducible assumption | (refine bl_alloc ?_ (Nat.le_refl _) _))
    have hsz : w.heap.size + 2 ≤ ((w.alloc (.cells #[(.int .u64 a0), (.int .u64 a1)] 28)).alloc (.cells #[(.int .u64 0), (.int .u64 0)] 28)).heap.size := by simp only [World.size_alloc]; omega
    generalize ((w.alloc (.cells #[(.int .u64 a0), (.int .u64 a1)] 28)).alloc (.cells #[(.int .u64 0), (.int .u64 0)] 28)) = w1 at q0 s0 hb00 hsz ⊢
    obtain ⟨q00, q01, q02, q03, q04⟩ := V2.mk q0.c0 q0.c1 q0.f0 q0.f1 q0.lt
    obtain ⟨s00, s01, s02, s03, s04⟩ := V2.mk s0.c0 s0.c1 s0.f0 s0.f1 s0.lt
    go_wp2_with fail
    refine (HI.out _).mono ?_
    rintro e w3 ⟨rfl, hb3⟩
    clear q00 q01 q02 q03 q04 s00 s01 s02 s03 s04
    replace hb00 := bl_call hb00 (Nat.le_refl _) hb3
    replace q0 := q0.call hb3
    replace s0 := s0.call hb3
    clear hb3
    obtain ⟨s00, s01, s02, s03, s04⟩ := V2.mk s0.c0 s0.c1 s0.f0 s0.f1 s0.lt
    go_wp2_with fail
    refine bodyPost_ret (results_v2 (b := w.heap.size + 1) (u := .int .u64 (lo y)) (v := .int .u64 (hi y)) ?_ rfl rfl) rfl ?_
    · exact V2.set s0 _ _
    · exact ⟨rfl, by repeat (first | exact Below.refl _ _ | with_reducible assumption | (refine bl_alloc ?_ (Nat.le_refl _) _) | (refine bl_set ?_ (by dsimp only; omega) _) | (refine Below.drew ?_) | (refine bl_drewN ?_ _) | (refine bl_call ?_ (Nat.le_refl _) (by assumption)))⟩

theorem field_Pow {f : Nat} (hf : IsF f) (x : Fin (Pm f)) (n : Nat) (hn : n ≤ 18446744073709551615) (w : World) :
    Calls Tryd.prog 77 #[.int .u8 f, vK x, .int .u64 n] w (RetK (Fm.kpow x n) w) := by
  have h := field_PowL hf (lo x) (hi x) (okE_eK x) n hn w
  rwa [kL_lohi] at h

end Go.Proofs.YtfhmineolncefaaDoor

namespace Go.Proofs.YtfhmineolncefaaDoor
open Go.RowKit Fm
set_option linter.unusedVariables false
set_option maxRecDepth 100000

section
variable {f : Nat}
/-- by which each value counts -/
def wt (L : Nat) (x : Fin (Pm f)) (k : Nat) : Fin (Pm f) := (Fm.kpow x (2 ^ L) - 1) * kinv (nK f (2 ^ L)) * Fm.kpow (rootK f L) k * kinv (x - Fm.kpow (rootK f L) k)
def wts (L : Nat) (x : Fin (Pm f)) : KL f := ofF (2 ^ L) (wt L x)
def RetWts (L : Nat) (x : Fin (Pm f)) (w : World) (e : Ending) (w' : World) : Prop :=
  (Fm.kpow x (2 ^ L) = 1 ∧ RetE9 12 w e w') ∨ (Fm.kpow x (2 ^ L) ≠ 1 ∧ RetOwn0 (wts L x) w e w')

variable (hf : IsF f)
include hf
set_option maxHeartbeats 8000000 in
theorem poly_WeightsL (L : Nat) (hL : L ≤ 10) (x0 x1 : Int) (hx : okE (x0, x1)) (w : World) :
    Calls Tryd.prog 45 #[.int .u8 f, .int .i64 L, .agg #[.int .u64 x0, .int .u64 x1]] w (RetWts L (kL f x0 x1) w) := by
  obtain ⟨x, hxk⟩ : ∃ x, kL f x0 x1 = x := ⟨_, rfl⟩
  have HSX : Hid (∀ y wz, Calls Tryd.prog 72 #[.int .u8 f, .agg #[.int .u64 x0, .int .u64 x1], vK y] wz (RetK (x - y) wz)) := fun y wz => by
    have h := field_SubL hf x0 x1 (lo y) (hi y) wz hx.1 hx.2.1 hx.2.2.1 hx.2.2.2 (lo_0 y) (lo_1 y) (hi_0 y) (hi_1 y)
    rwa [kL_lohi, hxk] at h
  have hfb0 : (1 : Int) ≤ (f : Int) := by rcases hf.or with rfl | rfl <;> omega
  have hfb1 : (f : Int) ≤ 2 := by rcases hf.or with rfl | rfl <;> omega
  have heq := eql_elem
  have HE := Lib.hid (vK_eq0 (f := f))
  have HPO := Lib.hid (fun wz => ntt_Points hf L hL wz)
  have HON := Lib.hid (fun wz => field_One hf wz)
  have HSU := Lib.hid (fun x y wz => field_SubK hf x y wz)
  have HMU := Lib.hid (fun x y wz => field_MulK hf x y wz)
  have HIN := Lib.hid (fun x wz => field_Inv hf x wz)
  have hp : 2 ^ L ≤ 2 ^ 10 := Nat.pow_le_pow_right (by omega) hL
  have hp0 := Nat.two_pow_pos L
  have HNN : Hid (nK f (2 ^ L) ≠ 0) := by
    show _ ≠ _
    rw [← nn_nK]
    exact nn_ne f _ hp0 (two_pow_lt (by omega))
  have HOF : Hid (∀ wz, Calls Tryd.prog 65 #[.int .u8 f, .int .u64 ((2 ^ L : Nat) : Int)] wz (RetK (nK f (2 ^ L)) wz)) := fun wz => by
    exact field_Of hf _ wz (by omega) (by omega)
  have HPW : Hid (∀ wz, Calls Tryd.prog 77 #[.int .u8 f, .agg #[.int .u64 x0, .int .u64 x1], .int .u64 ((2 ^ L : Nat) : Int)] wz (RetK (Fm.kpow x (2 ^ L)) wz)) := fun wz => by
    have h := field_PowL hf x0 x1 hx (2 ^ L) (by omega) wz
    rwa [hxk] at h
  rw [hxk]
  clear hxk hx
  have HRN : Hid (∀ k, Fm.kpow x (2 ^ L) ≠ 1 → x - Fm.kpow (rootK f L) k ≠ 0) := fun k h1 h2 => by
    have h3 : x = Fm.kpow (rootK f L) k := by grind
    apply h1
    rw [h3, ← Fm.kpow_mul, Nat.mul_comm, Fm.kpow_mul, (rt_root f L (by omega)).one, one_kpow]
  have HWT : Hid (∀ k, wt L x k = (Fm.kpow x (2 ^ L) - 1) * kinv (nK f (2 ^ L)) * Fm.kpow (rootK f L) k * kinv (x - Fm.kpow (rootK f L) k)) := fun _ => rfl
  have HPA : Hid (∀ k, k < 2 ^ L → (pows (rootK f L) (2 ^ L))[k]? = some (Fm.kpow (rootK f L) k)) := fun k hk => by
    have h1 : (pows (rootK f L) (2 ^ L)).getD k 0 = Fm.kpow (rootK f L) k := by unfold pows; rw [ofF_getD, if_pos hk]
    rw [List.getD_eq_getElem?_getD] at h1
    obtain ⟨z, hz⟩ : ∃ z, (pows (rootK f L) (2 ^ L))[k]? = some z := ⟨_, List.getElem?_eq_getElem (by rw [pows_length]; exact hk)⟩
    rw [hz] at h1 ⊢
    exact congrArg some h1
  have HPL : Hid ((pows (rootK f L) (2 ^ L)).length = 2 ^ L) := pows_length ..
  have hwn : IntKind.u64.wrap ((2 ^ L : Nat) : Int) = ((2 ^ L : Nat) : Int) := IntWalk.u64_in _ (by omega)
  obtain ⟨N, hN⟩ : ∃ N, 2 ^ L = N := ⟨_, rfl⟩
  have HNL := Lib.hid hN
  have HWL : Hid ((wts L x).length = 2 ^ L) := ofF_length ..
  have HWS : Hid (wts L x = ofF (2 ^ L) (wt L x)) := rfl
  have HGO : Hid (∀ (e : Ending) (w' : World), RetWts L x w e w' ↔ ((Fm.kpow x (2 ^ L) = 1 ∧ RetE9 12 w e w') ∨ (Fm.kpow x (2 ^ L) ≠ 1 ∧ RetOwn0 (wts L x) w e w'))) := fun _ _ => Iff.rfl
  rw [hN] at hp hp0 HNN HOF HPW HRN HWT HPA HPL hwn HWL HWS HGO
  rw [hN] at HPO
  have HSN : Hid (∀ k, ofF (k + 1) (wt L x) = ofF k (wt L x) ++ [wt L x k]) := fun k => by
    unfold ofF
    rw [List.range_succ, List.map_append]
    rfl
  have HSL : Hid (∀ k, (ofF k (wt L x)).length = k) := fun k => ofF_length ..
  clear hN
  obtain ⟨xn, hxn⟩ : ∃ z, Fm.kpow x N = z := ⟨_, rfl⟩
  rw [hxn] at HPW HRN HWT HGO
  clear hxn
  generalize nK f N = nn0 at *
  have hb00 : Below w.heap.size w w := Below.refl _ _
  go_enter Tryd.func45, Tryd.ntmps45
  go_upto_region 1 with fail
  clear hb00
  have q0 := V2.new w (.int .u64 x0) (.int .u64 x1) 28
  have hb00 : Below w.heap.size w (w.alloc (.cells #[(.int .u64 x0), (.int .u64 x1)] 28)) := by repeat (first | exact Below.refl _ _ | with_reducible assumption | (refine bl_alloc ?_ (Nat.le_refl _) _))
  have hsz : w.heap.size + 1 ≤ (w.alloc (.cells #[(.int .u64 x0), (.int .u64 x1)] 28)).heap.size := by simp only [World.size_alloc]; omega
  generalize (w.alloc (.cells #[(.int .u64 x0), (.int .u64 x1)] 28)) = w1 at q0 hb00 hsz ⊢
  go_wp2_with fail
  refine (HPO.out _).mono ?_
  rintro e w2 ⟨vp, rfl, hop, hb2⟩
  obtain ⟨AP, cP, rfl⟩ := own_shape hop
  have hps := own_sl rfl hop
  rw [HPL.out] at hps ⊢
  replace hb00 := bl_call hb00 (Nat.le_refl _) hb2
  replace q0 := q0.call hb2
  clear hb2 hop HPO
  obtain ⟨q00, q01, q02, q03, q04⟩ := V2.mk q0.c0 q0.c1 q0.f0 q0.f1 q0.lt
  go_wp2_with fail
  refine (HPW.out _).mono ?_
  rintro e w3 ⟨rfl, hb3⟩
  clear q00 q01 q02 q03 q04
  replace hb00 := bl_call hb00 (Nat.le_refl _) hb3
  replace q0 := q0.call hb3
  replace hps := hps.later hb3
  clear hb3
  go_wp2_with fail
  refine (HON.out _).mono ?_
  rintro e w4 ⟨rfl, hb4⟩
  replace hb00 := bl_call hb00 (Nat.le_refl _) hb4
  replace q0 := q0.call hb4
  replace hps := hps.later hb4
  clear hb4
  go_wp2_with fail
  refine (HSU.out xn 1 _).mono ?_
  rintro e w5 ⟨rfl, hb5⟩
  replace hb00 := bl_call hb00 (Nat.le_refl _) hb5
  replace q0 := q0.call hb5
  replace hps := hps.later hb5
  clear hb5
  obtain ⟨top, htop⟩ : ∃ t, xn - 1 = t := ⟨_, rfl⟩
  rw [htop]
  go_upto_region 6 with fail
  have HPS := Lib.hid hps
  have hw5q := q0.lt
  have hc00 : Below w5.heap.size w5 w5 := Below.refl _ _
  clear hps
  have tv := V2.new w5 (.int .u64 (lo top)) (.int .u64 (hi top)) 28
  have hbA : Below w5.heap.size w5 (w5.alloc (.cells #[.int .u64 (lo top), .int .u64 (hi top)] 28)) := by repeat (first | exact Below.refl _ _ | with_reducible assumption | (refine bl_alloc ?_ (Nat.le_refl _) _))
  replace hb00 := bl_call hb00 (Nat.le_refl _) hbA
  replace hc00 := bl_call hc00 (Nat.le_refl _) hbA
  replace q0 := q0.call hbA
  clear hbA
  generalize w5.alloc (.cells #[.int .u64 (lo top), .int .u64 (hi top)] 28) = w6 at hb00 hc00 q0 tv ⊢
  obtain ⟨tb, htb⟩ : ∃ z, w5.heap.size = z := ⟨_, rfl⟩
  have hwt : w.heap.size < tb := by rw [← htb]; exact hw5q
  have htc : w5.heap.size ≤ tb := by omega
  rw [htb] at tv
  simp only [htb]
  clear htb hw5q
  have hE0 := HE.out top
  by_cases ht0 : top = 0
  · rw [decide_eq_true ht0] at hE0
    have HX1 : Hid (xn = 1) := by show _ = _; rw [ht0] at htop; grind
    clear htop ht0
    obtain ⟨tv0, tv1, tv2, tv3, tv4⟩ := V2.mk tv.c0 tv.c1 tv.f0 tv.f1 tv.lt
    go_wp2_with fail
    go_ret2
    exact (HGO.out _ _).2 (.inl ⟨HX1.out, rfl, hb00⟩)
  · rw [decide_eq_false ht0] at hE0
    have HX1 : Hid (xn ≠ 1) := fun h => ht0 (by rw [← htop, h]; grind)
    have HTP := Lib.hid htop
    clear htop ht0
    obtain ⟨tv0, tv1, tv2, tv3, tv4⟩ := V2.mk tv.c0 tv.c1 tv.f0 tv.f1 tv.lt
    go_wp2_with fail
    refine (HOF.out _).mono ?_
    rintro e w7 ⟨rfl, hb7⟩
    clear tv0 tv1 tv2 tv3 tv4
    replace hb00 := bl_call hb00 (Nat.le_refl _) hb7
    replace hc00 := bl_call hc00 (Nat.le_refl _) hb7
    replace q0 := q0.call hb7
    replace tv := tv.call hb7
    clear hb7
    go_wp2_with fail
    refine (HIN.out nn0 _).mono ?_
    rintro e w8 (⟨h0, _⟩ | ⟨_, rfl, hb8⟩)
    · exact absurd h0 HNN.out
    replace hb00 := bl_call hb00 (Nat.le_refl _) hb8
    replace hc00 := bl_call hc00 (Nat.le_refl _) hb8
    replace q0 := q0.call hb8
    replace tv := tv.call hb8
    clear hb8
    obtain ⟨m, hm⟩ : ∃ t, kinv nn0 = t := ⟨_, rfl⟩
    rw [hm] at HWT ⊢
    clear hm
    go_upto_region 9 with fail
    have mv := V2.new w8 (.int .u64 (lo m)) (.int .u64 (hi m)) 28
    have hbA : Below w8.heap.size w8 (w8.alloc (.cells #[.int .u64 (lo m), .int .u64 (hi m)] 28)) := by repeat (first | exact Below.refl _ _ | with_reducible assumption | (refine bl_alloc ?_ (Nat.le_refl _) _))
    replace hb00 := bl_call hb00 (Nat.le_refl _) hbA
    replace hc00 := bl_call hc00 (Nat.le_refl _) hbA
    replace q0 := q0.call hbA
    replace tv := tv.call hbA
    clear hbA
    generalize w8.alloc (.cells #[.int .u64 (lo m), .int .u64 (hi m)] 28) = w9 at hb00 hc00 q0 tv mv ⊢
    obtain ⟨mb, hmb⟩ : ∃ z, w8.heap.size = z := ⟨_, rfl⟩
    rw [hmb] at mv
    simp only [hmb]
    clear hmb
    obtain ⟨tv0, tv1, tv2, tv3, tv4⟩ := V2.mk tv.c0 tv.c1 tv.f0 tv.f1 tv.lt
    obtain ⟨mv0, mv1, mv2, mv3, mv4⟩ := V2.mk mv.c0 mv.c1 mv.f0 mv.f1 mv.lt
    go_wp2_with fail
    refine (HMU.out top m _).mono ?_
    rintro e w10 ⟨rfl, hb10⟩
    clear tv0 tv1 tv2 tv3 tv4 mv0 mv1 mv2 mv3 mv4
    replace hb00 := bl_call hb00 (Nat.le_refl _) hb10
    replace hc00 := bl_call hc00 (Nat.le_refl _) hb10
    replace q0 := q0.call hb10
    replace tv := tv.call hb10
    replace mv := mv.call hb10
    clear hb10 mv
    obtain ⟨c, hc⟩ : ∃ c, top * m = c := ⟨_, rfl⟩
    have HWT2 : Hid (∀ k, wt L x k = c * Fm.kpow (rootK f L) k * kinv (x - Fm.kpow (rootK f L) k)) := fun k => by rw [HWT.out, HTP.out, hc]
    rw [hc]
    clear hc HWT HTP
    obtain ⟨tv0, tv1, tv2, tv3, tv4⟩ := V2.mk tv.c0 tv.c1 tv.f0 tv.f1 tv.lt
    go_upto_region 12 with fail
    clear tv0 tv1 tv2 tv3 tv4
    replace q0 := V2.oth q0 (b := tb) (by omega) (.int .u64 (lo c)) (.int .u64 (hi c))
    replace hb00 := bl_st hb00 (b := tb) (by omega) (.int .u64 (lo c)) (.int .u64 (hi c))
    replace hc00 := bl_st hc00 (b := tb) htc (.int .u64 (lo c)) (.int .u64 (hi c))
    replace tv : V2 ((w10.setCell ⟨tb, 0, none⟩ (.int .u64 (lo c))).setCell ⟨tb, 1, none⟩ (.int .u64 (hi c))) tb (.int .u64 (lo c)) (.int .u64 (hi c)) := V2.set tv _ _
    generalize (w10.setCell ⟨tb, 0, none⟩ (.int .u64 (lo c))).setCell ⟨tb, 1, none⟩ (.int .u64 (hi c)) = w11 at hb00 hc00 q0 tv ⊢
    have HQ := Lib.hid q0
    have HTV := Lib.hid tv
    have HPS2 := Lib.hid (HPS.out.later hc00)
    clear q0 tv hc00 HPS htc hwt
    have hbo : Below w11.heap.size w11 w11 := Below.refl _ _
    go_wp2_with fail
    go_loopw [13, 58] (fun vr iv wr => ∃ (k : Nat) (D : Option Addr) (cp : Nat), k ≤ N ∧ iv = .int .i64 k ∧ vr = .slice D k cp ∧ wr.ownsRow w11.heap.size 28 2 (.slice D k cp) k (cellsE (esK (ofF k (wt L x)))) ∧ Below w11.heap.size w11 wr) (fun _ iv _ => N - (intOf iv).toNat)
    case atStart => exact ⟨0, none, 0, Nat.zero_le _, rfl, rfl, World.ownsRow_nil _ _ _ _, hbo⟩
    case round =>
      clear hbo
      obtain ⟨k, D, cp, hk, rfl, rfl, hown, hbo⟩ := hrel
      by_cases hkN : k < N
      · obtain ⟨b1, o1, hAe, hbw1, hrow1⟩ := HPS2.out.rowOf (by rw [HPL.out]; omega)
        obtain ⟨p, hp9⟩ : ∃ p, Fm.kpow (rootK f L) k = p := ⟨_, rfl⟩
        have hpk := HPA.out k hkN
        have HNZ := HRN.out k HX1.out
        have HWK := HWT2.out k
        rw [hp9] at hpk HNZ HWK
        obtain ⟨d0, d1⟩ := (hrow1.below hbo hbw1).kat hpk
        have HNZ' := Lib.hid HNZ
        have HWK' := Lib.hid HWK
        have g1 : (0 : Int) ≤ (k : Int) := by omega
        have g3 : (k : Int) < (N : Int) := by omega
        have q0 := HQ.out.call hbo
        have tv := HTV.out.call hbo
        have hwz := hbo.size
        subst hAe
        clear hpk hrow1 HNZ HWK hp9
        go_upto_region 16 with fail
        have pv := V2.new wr (.int .u64 (lo p)) (.int .u64 (hi p)) 28
        have hbA : Below wr.heap.size wr (wr.alloc (.cells #[.int .u64 (lo p), .int .u64 (hi p)] 28)) := by repeat (first | exact Below.refl _ _ | with_reducible assumption | (refine bl_alloc ?_ (Nat.le_refl _) _))
        replace hbo := bl_call hbo (Nat.le_refl _) hbA
        replace hown := own_call hown hbA
        replace q0 := q0.call hbA
        replace tv := tv.call hbA
        clear hbA
        generalize wr.alloc (.cells #[.int .u64 (lo p), .int .u64 (hi p)] 28) = w12 at hbo hown q0 tv pv ⊢
        clear d0 d1
        obtain ⟨q00, q01, q02, q03, q04⟩ := V2.mk q0.c0 q0.c1 q0.f0 q0.f1 q0.lt
        obtain ⟨pv0, pv1, pv2, pv3, pv4⟩ := V2.mk pv.c0 pv.c1 pv.f0 pv.f1 pv.lt
        go_wp2_with fail
        refine (HSX.out p _).mono ?_
        rintro e w13 ⟨rfl, hb13⟩
        clear q00 q01 q02 q03 q04 pv0 pv1 pv2 pv3 pv4
        replace hbo := bl_call hbo (Nat.le_refl _) hb13
        replace hown := own_call hown hb13
        replace tv := tv.call hb13
        replace pv := pv.call hb13
        clear hb13 q0
        go_wp2_with fail
        refine (HIN.out (x - p) _).mono ?_
        rintro e w14 (⟨h0, _⟩ | ⟨_, rfl, hb14⟩)
        · exact absurd h0 HNZ'.out
        replace hbo := bl_call hbo (Nat.le_refl _) hb14
        replace hown := own_call hown hb14
        replace tv := tv.call hb14
        replace pv := pv.call hb14
        clear hb14
        obtain ⟨d, hd⟩ : ∃ t, kinv (x - p) = t := ⟨_, rfl⟩
        rw [hd] at HWK' ⊢
        clear hd
        go_upto_region 17 with fail
        have dv := V2.new w14 (.int .u64 (lo d)) (.int .u64 (hi d)) 28
        have hbA : Below w14.heap.size w14 (w14.alloc (.cells #[.int .u64 (lo d), .int .u64 (hi d)] 28)) := by repeat (first | exact Below.refl _ _ | with_reducible assumption | (refine bl_alloc ?_ (Nat.le_refl _) _))
        replace hbo := bl_call hbo (Nat.le_refl _) hbA
        replace hown := own_call hown hbA
        replace tv := tv.call hbA
        replace pv := pv.call hbA
        clear hbA
        generalize w14.alloc (.cells #[.int .u64 (lo d), .int .u64 (hi d)] 28) = w15 at hbo hown tv pv dv ⊢
        go_upto_region 19 with fail
        obtain ⟨tv0, tv1, tv2, tv3, tv4⟩ := V2.mk tv.c0 tv.c1 tv.f0 tv.f1 tv.lt
        obtain ⟨pv0, pv1, pv2, pv3, pv4⟩ := V2.mk pv.c0 pv.c1 pv.f0 pv.f1 pv.lt
        obtain ⟨dv0, dv1, dv2, dv3, dv4⟩ := V2.mk dv.c0 dv.c1 dv.f0 dv.f1 dv.lt
        refine region_G (n := 9) (m := 11) (f := 9) (by kernel_rfl) (by kernel_rfl) rfl ?_
        refine WpG.takeD 0 (some 74) (v := ?_) rfl rfl (by kernel_rfl) (fun _ _ _ h => h) (.val rfl (fun wz hwz => ?_)) ?_
        rotate_left
        · go_simp; try (with_reducible rfl)
        (simp only [Act.put]); (try simp only [List.setIfInBounds_toArray]); (try simp only [List.set_cons_succ]); (try simp only [List.set_cons_zero])
        refine WpG.takeD 1 (some 75) (v := ?_) rfl rfl (by kernel_rfl) (fun _ _ _ h => h) (.val rfl (fun wz hwz => ?_)) ?_
        rotate_left
        · go_simp; try (with_reducible rfl)
        (simp only [Act.put]); (try simp only [List.setIfInBounds_toArray]); (try simp only [List.set_cons_succ]); (try simp only [List.set_cons_zero])
        refine WpG.takeD 2 (some 76) (v := ?_) rfl rfl (by kernel_rfl) (fun _ _ _ h => h) (.val rfl (fun wz hwz => ?_)) ?_
        rotate_left
        · go_simp; try (with_reducible rfl)
        (simp only [Act.put]); (try simp only [List.setIfInBounds_toArray]); (try simp only [List.set_cons_succ]); (try simp only [List.set_cons_zero])
        refine WpG.takeD 3 (some 77) (v := ?_) rfl rfl (by kernel_rfl) (fun _ _ _ h => h) (.val rfl (fun wz hwz => ?_)) ?_
        rotate_left
        · (obtain ⟨hcz, hfz⟩ := bcell (hwz); go_simp; try (with_reducible rfl))
        (simp only [Act.put]); (try simp only [List.setIfInBounds_toArray]); (try simp only [List.set_cons_succ]); (try simp only [List.set_cons_zero])
        refine WpG.takeD 4 (some 78) (v := ?_) rfl rfl (by kernel_rfl) (fun _ _ _ h => h) (.val rfl (fun wz hwz => ?_)) ?_
        rotate_left
        · (obtain ⟨hcz, hfz⟩ := bcell (hwz); go_simp; try (with_reducible rfl))
        (simp only [Act.put]); (try simp only [List.setIfInBounds_toArray]); (try simp only [List.set_cons_succ]); (try simp only [List.set_cons_zero])
        refine WpG.takeD 5 (some 79) rfl rfl (by kernel_rfl) (fun _ _ _ h => h) (.call rfl (fun wz hwz => HMU.out c p wz) (fun wz hwz => ?_)) ?_
        · go_simp; try (with_reducible rfl)
        (simp only [Act.put]); (try simp only [List.setIfInBounds_toArray]); (try simp only [List.set_cons_succ]); (try simp only [List.set_cons_zero])
        refine WpG.takeD 6 (some 80) (v := ?_) rfl rfl (by kernel_rfl) (fun _ _ _ h => h) (.val rfl (fun wz hwz => ?_)) ?_
        rotate_left
        · (obtain ⟨hcz, hfz⟩ := bcell (hwz); go_simp; try (with_reducible rfl))
        (simp only [Act.put]); (try simp only [List.setIfInBounds_toArray]); (try simp only [List.set_cons_succ]); (try simp only [List.set_cons_zero])
        refine WpG.takeD 7 (some 81) rfl rfl (by kernel_rfl) (fun _ _ _ h => h) (.call rfl (fun wz hwz => HMU.out (c * p) d wz) (fun wz hwz => ?_)) ?_
        · go_simp; try (with_reducible rfl)
        (simp only [Act.put]); (try simp only [List.setIfInBounds_toArray]); (try simp only [List.set_cons_succ]); (try simp only [List.set_cons_zero])
        refine WpG.oneD 8 (some 82) rfl rfl (by kernel_rfl) (fun b : Nat => Value.slice (some ⟨b, 0, none⟩) 1 1) (fun b wz => w15.heap.size ≤ b ∧ BlkE wz b [eK (c * p * d)]) (fun _ _ _ h hb => ⟨h.1, h.2.call hb⟩) (Fresh.slice 1 1 [.int .u64 (lo (c * p * d)), .int .u64 (hi (c * p * d))] 28 rfl (fun wz hwz => (hwz).size) (fun wz hwz => by go_simp; try (with_reducible rfl)) (R := fun b wz => BlkE wz b [eK (c * p * d)]) (fun wz hwz => BlkE.new wz [eK (c * p * d)] _ rfl)) (fun nb w0 hw0 hR0 => ?_)
        (simp only [Act.put]); (try simp only [List.setIfInBounds_toArray]); (try simp only [List.set_cons_succ]); (try simp only [List.set_cons_zero])
        refine WpG.done (by kernel_rfl) (fun w16 hS => ?_)
        (try simp only [List.drop_succ_cons]); (try simp only [List.drop_zero]); (try simp only [Nat.reduceSub]); (try simp only [List.take_succ_cons]); (try simp only [List.take_zero])
        obtain ⟨hb16, hnb, hE⟩ := hS
        clear tv0 tv1 tv2 tv3 tv4 pv0 pv1 pv2 pv3 pv4 dv0 dv1 dv2 dv3 dv4
        obtain ⟨u, hu⟩ : ∃ u, c * p * d = u := ⟨_, rfl⟩
        rw [hu] at hE
        have HU : Hid (wt L x k = u) := by show _ = _; rw [HWK'.out, hu]
        have hb15 := hbo.trans (hb16.mono hbo.size)
        have HOW := Lib.hid (own_call hown hb16)
        have HR1 := Lib.hid (show 0 < 1 → ∃ b o, (some ⟨nb, 0, none⟩ : Option Addr) = some ⟨b, o, none⟩ ∧ RowE w16 b o [eK u] from fun _ => ⟨_, _, rfl, hE.rowE⟩)
        have hk1 : k + 1 ≤ 1099511627776 := by omega
        have hbase : w11.heap.size ≤ w16.heap.size := hb15.size
        clear hown hE hu hb16 hnb hw0 hR0
        go_upto_region 20 with (at_builtin; (refine wpList_append_E rfl (.tmp 74) (.tmp 82) rfl w11.heap.size _ k (esK (ofF k (wt L x))) rfl HOW.out (some ⟨nb, 0, none⟩) 1 1 [eK u] rfl rfl HR1.out hk1 hbase ?_; intro v2 w2 hown2 hg2 hat2; have hb2 : Below w11.heap.size w11 w2 := hb15.trans ((Below.refl _ _).grown hg2 hbase (fun q hq => (HOW.out.lt q hq).1)); obtain ⟨g2, cap2, hv2⟩ := own_slice hown2; rw [hv2]))
        rw [hv2, show esK (ofF k (wt L x)) ++ [eK u] = esK (ofF (k + 1) (wt L x)) by rw [HSN.out, esK_append, HU.out]; rfl] at hown2
        clear HOW HR1 hg2 hat2 hbase
        go_wp2_with fail
        go_roundw
        case rel => exact ⟨k + 1, _, cap2, by omega, by go_num, rfl, hown2, hb2⟩
        case measure => simp [intOf]; omega
      · obtain hke : k = N := by omega
        subst hke
        go_wp2_with fail
        go_ret2
        exact (HGO.out _ _).2 (.inr ⟨HX1.out, _, rfl, by rw [HWL.out, HWS.out]; exact own_mono hown hb00.size, bl_call hb00 (Nat.le_refl _) hbo⟩)
theorem poly_Weights (L : Nat) (hL : L ≤ 10) (x : Fin (Pm f)) (w : World) :
    Calls Tryd.prog 45 #[.int .u8 f, .int .i64 L, vK x] w (RetWts L x w) := by
  have h := poly_WeightsL hf L hL (lo x) (hi x) (okE_eK x) w
  rwa [kL_lohi] at h
end

end Go.Proofs.YtfhmineolncefaaDoor

namespace Go.Proofs.YtfhmineolncefaaDoor
open Go.RowKit Fm
set_option linter.unusedVariables false
set_option maxRecDepth 100000

section
variable {f : Nat} (hf : IsF f)
include hf
set_option maxHeartbeats 8000000 in
theorem pair_MulK (va vb : Value) (a b : KL f) (w : World) (ha : SlK w w.heap.size va a) (hb : SlK w w.heap.size vb b) (hl : a.length = b.length) (hn : a.length ≤ 100000) :
    Calls Tryd.prog 62 #[va, vb, .func (.func 31) #[.int .u8 f] #[]] w (RetBlk0 (ofF a.length fun i => a.getD i 0 * b.getD i 0) w) := by
  have HMU := Lib.hid (fun y z wz => field_MulK hf y z wz)
  obtain ⟨A, c, rfl, hc, hcm, hA⟩ := ha
  obtain ⟨B, d, rfl, hd, hdm, hB⟩ := hb
  have HL := Lib.hid hl
  obtain ⟨n, hnn⟩ : ∃ n, a.length = n := ⟨_, rfl⟩
  have hnb : b.length = n := by omega
  have HAL := Lib.hid hnn
  have HBL := Lib.hid hnb
  have hmk := make_elem n (by omega)
  have HA := Lib.hid hA
  have HB := Lib.hid hB
  rw [hnn] at hn ⊢
  rw [hnb]
  clear hA hB hl hnn hnb
  have HEND : Hid (∀ S : KL f, S.length = n → (∀ j, j < n → S.getD j 0 = a.getD j 0 * b.getD j 0) → S = ofF n fun i => a.getD i 0 * b.getD i 0) := fun S h1 h2 => eq_ofF h1 h2
  have HRT : Hid (∀ (e : Ending) (w' : World), RetBlk0 (ofF n fun i => a.getD i 0 * b.getD i 0) w e w' ↔ ∃ g, e = .returned (.tuple #[.slice (some ⟨g, 0, none⟩) n n, .int .i64 0]) ∧ RwK w' g (ofF n fun i => a.getD i 0 * b.getD i 0) ∧ w.heap.size ≤ g ∧ Below w.heap.size w w') := fun e w' => by
    unfold RetBlk0
    rw [show (ofF n fun i => a.getD i 0 * b.getD i 0).length = n from ofF_length ..]
  have hb : ((n : Int) != (n : Int)) = false := by simp
  go_enter Tryd.func62, Tryd.ntmps62
  go_wp2_with fail
  have hB0 := RwK.new w (List.replicate n (0 : Fin (Pm f))) (cellsE (List.replicate n (0, 0))).toArray (by unfold esK; rw [List.map_replicate, eK_zero]) 28
  have hb00 : Below w.heap.size w (w.alloc (.cells (cellsE (List.replicate n (0, 0))).toArray 28)) := by repeat (first | exact Below.refl _ _ | with_reducible assumption | (refine bl_alloc ?_ (Nat.le_refl _) _) | (refine bl_set ?_ (by dsimp only; omega) _) | (refine Below.drew ?_) | (refine bl_drewN ?_ _) | (refine bl_call ?_ (Nat.le_refl _) (by assumption)))
  generalize w.alloc (.cells (cellsE (List.replicate n (0, 0))).toArray 28) = w1 at hB0 hb00 ⊢
  clear hmk
  go_loopw [20] (fun kv wr => ∃ (k : Nat) (S : KL f), k ≤ n ∧ kv = .int .i64 k ∧ Hid (S.length = n ∧ ∀ j, j < k → S.getD j 0 = a.getD j 0 * b.getD j 0) ∧ RwK wr w.heap.size S ∧ Below w.heap.size w wr) (fun kv _ => n - (intOf kv).toNat)
  case atStart => exact ⟨0, _, Nat.zero_le _, rfl, ⟨List.length_replicate .., fun j h => absurd h (Nat.not_lt_zero _)⟩, hB0, hb00⟩
  case round =>
    clear hB0 hb00
    obtain ⟨k, S, hk, rfl, hS, hR, hb00⟩ := hrel
    by_cases hkn : k < n
    · have g1 : (0 : Int) ≤ (k : Int) := by omega
      have g3 : (k : Int) < (n : Int) := by omega
      have HSL : Hid (S.length = n) := hS.out.1
      have HS1 : Hid (∀ j, j < k → S.getD j 0 = a.getD j 0 * b.getD j 0) := hS.out.2
      obtain ⟨b1, o1, hAe, hbw1, hrow1⟩ := HA.out (by rw [HAL.out]; omega)
      obtain ⟨b2, o2, hBe, hbw2, hrow2⟩ := HB.out (by rw [HBL.out]; omega)
      obtain ⟨y, hy⟩ : ∃ z, a[k]? = some z := ⟨_, List.getElem?_eq_getElem (by rw [HAL.out]; exact hkn)⟩
      obtain ⟨z, hz⟩ : ∃ z, b[k]? = some z := ⟨_, List.getElem?_eq_getElem (by rw [HBL.out]; exact hkn)⟩
      have HPR : Hid (a.getD k 0 * b.getD k 0 = y * z) := by show _ = _; rw [List.getD_eq_getElem?_getD, hy, List.getD_eq_getElem?_getD, hz]; rfl
      obtain ⟨d0, d1⟩ := (hrow1.below hb00 hbw1).kat hy
      obtain ⟨e0, e1⟩ := (hrow2.below hb00 hbw2).kat hz
      have l1 : b1 < wr.heap.size := Nat.lt_of_lt_of_le hbw1 hb00.size
      have l2 : b2 < wr.heap.size := Nat.lt_of_lt_of_le hbw2 hb00.size
      subst hAe
      subst hBe
      obtain ⟨y9, hy9⟩ : ∃ x, S[k]? = some x := ⟨_, List.getElem?_eq_getElem (by have := HSL.out; omega)⟩
      have HY9 := Lib.hid hy9
      obtain ⟨c0, c1⟩ := hR.at hy9
      have g9 := hR.lt
      clear hy hz hrow1 hrow2 hy9 hS
      go_upto_region 7 with fail
      refine region_B (n := 12) (m := 14) (f := 12) (by kernel_rfl) (by kernel_rfl) rfl ?_
      refine WpH.takeD 0 (some 23) (v := ?_) rfl rfl (by kernel_rfl) (fun _ _ _ h => h) (.val rfl (fun wz hwz => ?_)) ?_
      rotate_left
      · go_simp; try (with_reducible rfl)
      (simp only [Act.put]); (try simp only [List.setIfInBounds_toArray]); (try simp only [List.set_cons_succ]); (try simp only [List.set_cons_zero])
      refine WpH.takeD 1 (some 24) (v := ?_) rfl rfl (by kernel_rfl) (fun _ _ _ h => h) (.val rfl (fun wz hwz => ?_)) ?_
      rotate_left
      · go_simp; try (with_reducible rfl)
      (simp only [Act.put]); (try simp only [List.setIfInBounds_toArray]); (try simp only [List.set_cons_succ]); (try simp only [List.set_cons_zero])
      refine WpH.takeD 2 (some 25) (v := ?_) rfl rfl (by kernel_rfl) (fun _ _ _ h => h) (.val rfl (fun wz hwz => ?_)) ?_
      rotate_left
      · go_simp; try (with_reducible rfl)
      (simp only [Act.put]); (try simp only [List.setIfInBounds_toArray]); (try simp only [List.set_cons_succ]); (try simp only [List.set_cons_zero])
      refine WpH.takeD 3 (some 26) (v := ?_) rfl rfl (by kernel_rfl) (fun _ _ _ h => h) (.val rfl (fun wz hwz => ?_)) ?_
      rotate_left
      · go_simp; try (with_reducible rfl)
      (simp only [Act.put]); (try simp only [List.setIfInBounds_toArray]); (try simp only [List.set_cons_succ]); (try simp only [List.set_cons_zero])
      refine WpH.takeD 4 (some 27) (v := ?_) rfl rfl (by kernel_rfl) (fun _ _ _ h => h) (.val rfl (fun wz hwz => ?_)) ?_
      rotate_left
      · go_simp; try (with_reducible rfl)
      (simp only [Act.put]); (try simp only [List.setIfInBounds_toArray]); (try simp only [List.set_cons_succ]); (try simp only [List.set_cons_zero])
      refine WpH.takeD 5 (some 28) (v := ?_) rfl rfl (by kernel_rfl) (fun _ _ _ h => h) (.val rfl (fun wz hwz => ?_)) ?_
      rotate_left
      · go_simp; try (with_reducible rfl)
      (simp only [Act.put]); (try simp only [List.setIfInBounds_toArray]); (try simp only [List.set_cons_succ]); (try simp only [List.set_cons_zero])
      refine WpH.takeD 6 (some 29) (v := ?_) rfl rfl (by kernel_rfl) (fun _ _ _ h => h) (.val rfl (fun wz hwz => ?_)) ?_
      rotate_left
      · (obtain ⟨hcz, hfz⟩ := bcell hwz; go_simp; try (with_reducible rfl))
      (simp only [Act.put]); (try simp only [List.setIfInBounds_toArray]); (try simp only [List.set_cons_succ]); (try simp only [List.set_cons_zero])
      refine WpH.takeD 7 (some 30) (v := ?_) rfl rfl (by kernel_rfl) (fun _ _ _ h => h) (.val rfl (fun wz hwz => ?_)) ?_
      rotate_left
      · go_simp; try (with_reducible rfl)
      (simp only [Act.put]); (try simp only [List.setIfInBounds_toArray]); (try simp only [List.set_cons_succ]); (try simp only [List.set_cons_zero])
      refine WpH.takeD 8 (some 31) (v := ?_) rfl rfl (by kernel_rfl) (fun _ _ _ h => h) (.val rfl (fun wz hwz => ?_)) ?_
      rotate_left
      · go_simp; try (with_reducible rfl)
      (simp only [Act.put]); (try simp only [List.setIfInBounds_toArray]); (try simp only [List.set_cons_succ]); (try simp only [List.set_cons_zero])
      refine WpH.takeD 9 (some 32) (v := ?_) rfl rfl (by kernel_rfl) (fun _ _ _ h => h) (.val rfl (fun wz hwz => ?_)) ?_
      rotate_left
      · go_simp; try (with_reducible rfl)
      (simp only [Act.put]); (try simp only [List.setIfInBounds_toArray]); (try simp only [List.set_cons_succ]); (try simp only [List.set_cons_zero])
      refine WpH.takeD 10 (some 33) (v := ?_) rfl rfl (by kernel_rfl) (fun _ _ _ h => h) (.val rfl (fun wz hwz => ?_)) ?_
      rotate_left
      · (obtain ⟨hcz, hfz⟩ := bcell hwz; go_simp; try (with_reducible rfl))
      (simp only [Act.put]); (try simp only [List.setIfInBounds_toArray]); (try simp only [List.set_cons_succ]); (try simp only [List.set_cons_zero])
      refine WpH.takeD 11 (some 34) rfl rfl (by kernel_rfl) (fun _ _ _ h => h) (.call rfl (fun wz hwz => HMU.out y z wz) (fun wz hwz => ?_)) ?_
      · go_simp; try (with_reducible rfl)
      (simp only [Act.put]); (try simp only [List.setIfInBounds_toArray]); (try simp only [List.set_cons_succ]); (try simp only [List.set_cons_zero])
      refine WpH.doneB (by kernel_rfl) (fun w7 hw7 => ?_)
      (try simp only [List.drop_succ_cons]); (try simp only [List.drop_zero]); (try simp only [Nat.reduceSub]); (try simp only [List.take_succ_cons]); (try simp only [List.take_zero])
      clear d0 d1 e0 e1 l1 l2 c0 c1 g9
      replace hb00 := bl_call hb00 (Nat.le_refl _) hw7
      replace hR := hR.call hw7
      clear hw7
      obtain ⟨c0, c1⟩ := hR.at HY9.out
      obtain ⟨f0, f1⟩ := hR.frz (i := k) (by have := HSL.out; omega)
      have g9 := hR.lt
      go_wp2_with fail
      go_roundw
      case rel => exact ⟨k + 1, _, by omega, by go_num, ⟨by rw [List.length_set]; exact HSL.out, fun j hj => by
        rw [set_getD _ _ _ (by have := HSL.out; omega)]
        by_cases he : j = k
        · rw [if_pos he, he, HPR.out]
        · rw [if_neg he]
          exact HS1.out j (by omega)⟩, hR.set k (by have := HSL.out; omega) (y * z), by repeat (first | exact Below.refl _ _ | with_reducible assumption | (refine bl_alloc ?_ (Nat.le_refl _) _) | (refine bl_set ?_ (by dsimp only; omega) _) | (refine Below.drew ?_) | (refine bl_drewN ?_ _) | (refine bl_call ?_ (Nat.le_refl _) (by assumption)))⟩
      case measure => simp [intOf]; omega
    · obtain hke : k = n := by omega
      subst hke
      have HT := Lib.hid (HEND.out S hS.out.1 hS.out.2)
      rw [HT.out] at hR
      go_wp2_with fail
      go_ret2
      exact (HRT.out _ _).2 ⟨_, rfl, hR, Nat.le_refl _, hb00⟩

/-- a number and no error -/
def RetK0 {f : Nat} (x : Fin (Pm f)) (w : World) (e : Ending) (w' : World) : Prop := e = .returned (.tuple #[vK x, .int .i64 0]) ∧ Below w.heap.size w w'

set_option maxHeartbeats 4000000 in
theorem field_Dot (va vb : Value) (a b : KL f) (w : World) (ha : SlK w w.heap.size va a) (hb : SlK w w.heap.size vb b) (hl : a.length = b.length) (hn : a.length ≤ 100000) :
    Calls Tryd.prog 46 #[.int .u8 f, va, vb] w (RetK0 (ksum (ofF a.length fun i => a.getD i 0 * b.getD i 0)) w) := by
  have HPM : Hid (∀ wz, Below w.heap.size w wz → Calls Tryd.prog 62 #[va, vb, .func (.func 31) #[.int .u8 f] #[]] wz (RetBlk0 (ofF a.length fun i => a.getD i 0 * b.getD i 0) wz)) := fun wz h => pair_MulK hf va vb a b wz (ha.later h) (hb.later h) hl hn
  have HSM := Lib.hid (fun v (l : KL f) wz h1 h2 => field_SumK hf v l wz h1 h2)
  have HPL : Hid ((ofF a.length fun i => a.getD i 0 * b.getD i 0).length ≤ 100000) := by show _ ≤ _; rw [ofF_length]; exact hn
  obtain ⟨A, c, rfl, _, _, _⟩ := ha
  obtain ⟨B, d, rfl, _, _, _⟩ := hb
  generalize (ofF a.length fun i => a.getD i 0 * b.getD i 0) = P at *
  obtain ⟨s, hs⟩ : ∃ s, ksum P = s := ⟨_, rfl⟩
  rw [hs]
  have HS := Lib.hid hs
  clear hs hl
  have hmf : ∀ (fn : Fn) (first cap : Array Value) (w : World), (Instr.makeFunc fn first cap).run Tryd.prog w = .ok (.func fn first cap) w := fun _ _ _ _ => rfl
  go_enter Tryd.func46, Tryd.ntmps46
  go_upto_region 1 with fail
  have s0 := V2.new w (.int .u64 0) (.int .u64 0) 28
  have hb00 : Below w.heap.size w (w.alloc (.cells #[(.int .u64 0), (.int .u64 0)] 28)) := by repeat (first | exact Below.refl _ _ | with_reducible assumption | (refine bl_alloc ?_ (Nat.le_refl _) _))
  have hsz : w.heap.size + 1 ≤ (w.alloc (.cells #[(.int .u64 0), (.int .u64 0)] 28)).heap.size := by simp only [World.size_alloc]; omega
  generalize (w.alloc (.cells #[(.int .u64 0), (.int .u64 0)] 28)) = w1 at s0 hb00 hsz ⊢
  go_wp2_with fail
  refine (HPM.out _ hb00).mono ?_
  rintro e w2 ⟨g, rfl, hR, _, hb2⟩
  replace hb00 := bl_call hb00 (Nat.le_refl _) hb2
  replace s0 := s0.call hb2
  clear hb2
  have ss := hR.sl (n := P.length) (c := P.length) rfl (Nat.le_refl _) (by have := HPL.out; omega)
  clear hR
  go_wp2_with fail
  refine (HSM.out _ P _ ss (by have := HPL.out; omega)).mono ?_
  rintro e w3 ⟨rfl, hb3⟩
  rw [HS.out]
  replace hb00 := bl_call hb00 (Nat.le_refl _) hb3
  replace s0 := s0.call hb3
  clear hb3
  obtain ⟨s00, s01, s02, s03, s04⟩ := V2.mk s0.c0 s0.c1 s0.f0 s0.f1 s0.lt
  go_wp2_with fail
  refine bodyPost_ret (results_v2_tmp (b := w.heap.size) (u := .int .u64 (lo s)) (v := .int .u64 (hi s)) ?_ rfl rfl) rfl ?_
  · exact V2.set s0 _ _
  · exact ⟨rfl, by repeat (first | exact Below.refl _ _ | with_reducible assumption | (refine bl_alloc ?_ (Nat.le_refl _) _) | (refine bl_set ?_ (by dsimp only; omega) _) | (refine Below.drew ?_) | (refine bl_drewN ?_ _) | (refine bl_call ?_ (Nat.le_refl _) (by assumption)))⟩
end

end Go.Proofs.YtfhmineolncefaaDoor

namespace Go.Proofs.YtfhmineolncefaaDoor
open Go.RowKit Fm
set_option linter.unusedVariables false
set_option maxRecDepth 100000

section
variable {f : Nat}
theorem ksum_ofF (g : Nat → Fin (Pm f)) : ∀ n, ksum (ofF n g) = sm g n
  | 0 => rfl
  | n + 1 => by
    have h : ofF (n + 1) g = ofF n g ++ [g n] := by
      unfold ofF
      rw [List.range_succ, List.map_append]
      rfl
    rw [h]
    unfold ksum
    rw [List.foldl_append]
    have ih := ksum_ofF g n
    unfold ksum at ih
    rw [ih]
    rfl
theorem lag_sum (L : Nat) (hL : L ≤ 10) (x : Fin (Pm f)) (v : KL f) (hv : v.length = 2 ^ L) (hx : Fm.kpow x (2 ^ L) ≠ 1) : ksum (ofF (2 ^ L) fun i => (wts L x).getD i 0 * v.getD i 0) = ev x (coefsK L v) := by
  rw [ksum_ofF]
  have hr := rt_root f L (by omega)
  have hd : ∀ k, k < 2 ^ L → (x - Fm.kpow (rootK f L) k) * kinv (x - Fm.kpow (rootK f L) k) = 1 := fun k _ => mul_kinvK _ fun h2 => by
    have h3 : x = Fm.kpow (rootK f L) k := by grind
    apply hx
    rw [h3, ← Fm.kpow_mul, Nat.mul_comm, Fm.kpow_mul, hr.one, one_kpow]
  have h := lagrange (x := x) (m := Fm.kinv (nn f (2 ^ L))) hr (mul_kinv _ hr.ne_zero) v hv (fun k => kinv (x - Fm.kpow (rootK f L) k)) hd
  refine Eq.trans (sm_congr fun k hk => ?_) h
  unfold wts
  rw [ofF_getD, if_pos hk]
  unfold wt
  rw [kinv_fm (nK f (2 ^ L)), nn_nK]

/-- the value at x of the polynomial that has the values v; or x is one of the points -/
def RetLag (L : Nat) (v : KL f) (x : Fin (Pm f)) (w : World) (e : Ending) (w' : World) : Prop :=
  (Fm.kpow x (2 ^ L) = 1 ∧ e = .returned (.tuple #[.agg #[.int .u64 0, .int .u64 0], .int .i64 12]) ∧ Below w.heap.size w w') ∨ (Fm.kpow x (2 ^ L) ≠ 1 ∧ RetK0 (ev x (coefsK L v)) w e w')

variable (hf : IsF f)
include hf
set_option maxHeartbeats 8000000 in
theorem poly_Lagrange (L : Nat) (hL : L ≤ 10) (vv : Value) (v : KL f) (hv : v.length = 2 ^ L) (x : Fin (Pm f)) (w : World) (hT : TabW w) (hs : SlK w w.heap.size vv v) :
    Calls Tryd.prog 44 #[.int .u8 f, vv, vK x] w (RetLag L v x w) := by
  have HLO := Lib.hid (fun wz h => ntt_Log_ok L hL wz h)
  have HWT := Lib.hid (fun wz => poly_Weights hf L hL x wz)
  have HDO := Lib.hid (fun va vb (a b : KL f) wz h1 h2 h3 h4 => field_Dot hf va vb a b wz h1 h2 h3 h4)
  have HSU : Hid (Fm.kpow x (2 ^ L) ≠ 1 → ksum (ofF (2 ^ L) fun i => (wts L x).getD i 0 * v.getD i 0) = ev x (coefsK L v)) := lag_sum L hL x v hv
  have hp : 2 ^ L ≤ 2 ^ 10 := Nat.pow_le_pow_right (by omega) hL
  have HWL : Hid ((wts L x).length = 2 ^ L) := ofF_length ..
  have HV := Lib.hid hv
  have H0 := Lib.hid hs
  have HTB := Lib.hid hT
  have HGO : Hid (∀ (e : Ending) (w' : World), RetLag L v x w e w' ↔ ((Fm.kpow x (2 ^ L) = 1 ∧ e = .returned (.tuple #[.agg #[.int .u64 0, .int .u64 0], .int .i64 12]) ∧ Below w.heap.size w w') ∨ (Fm.kpow x (2 ^ L) ≠ 1 ∧ RetK0 (ev x (coefsK L v)) w e w'))) := fun _ _ => Iff.rfl
  obtain ⟨A, c, rfl, _, _, _⟩ := hs
  rw [hv] at H0 ⊢
  clear hv hT
  generalize ev x (coefsK L v) = r at *
  unfold RetWts at HWT
  generalize wts L x = W at *
  generalize Fm.kpow x (2 ^ L) = xn at *
  obtain ⟨N, hN⟩ : ∃ N, 2 ^ L = N := ⟨_, rfl⟩
  rw [hN] at HLO HSU hp HWL HV H0 ⊢
  clear hN
  go_enter Tryd.func44, Tryd.ntmps44
  go_upto_region 1 with fail
  have q0 := (V2.new w (.int .u64 (lo x)) (.int .u64 (hi x)) 28).alloc (.cells #[(.int .u64 0), (.int .u64 0)] 28)
  have s0 := V2.new (w.alloc (.cells #[(.int .u64 (lo x)), (.int .u64 (hi x))] 28)) (.int .u64 0) (.int .u64 0) 28
  simp only [World.size_alloc] at s0
  have hb00 : Below w.heap.size w ((w.alloc (.cells #[(.int .u64 (lo x)), (.int .u64 (hi x))] 28)).alloc (.cells #[(.int .u64 0), (.int .u64 0)] 28)) := by repeat (first | exact Below.refl _ _ | with_reducible assumption | (refine bl_alloc ?_ (Nat.le_refl _) _))
  have hsz : w.heap.size + 2 ≤ ((w.alloc (.cells #[(.int .u64 (lo x)), (.int .u64 (hi x))] 28)).alloc (.cells #[(.int .u64 0), (.int .u64 0)] 28)).heap.size := by simp only [World.size_alloc]; omega
  generalize ((w.alloc (.cells #[(.int .u64 (lo x)), (.int .u64 (hi x))] 28)).alloc (.cells #[(.int .u64 0), (.int .u64 0)] 28)) = w1 at q0 s0 hb00 hsz ⊢
  obtain ⟨q00, q01, q02, q03, q04⟩ := V2.mk q0.c0 q0.c1 q0.f0 q0.f1 q0.lt
  go_wp2_with fail
  refine (HLO.out _ (HTB.out.call hb00)).mono ?_
  rintro e w' ⟨rfl, rfl⟩
  go_wp2_with fail
  refine (HWT.out _).mono ?_
  rintro e w3 (⟨h1, rfl, hb3⟩ | ⟨h1, vw, rfl, how, hb3⟩)
  · have HX1 := Lib.hid h1
    clear q00 q01 q02 q03 q04
    replace hb00 := bl_call hb00 (Nat.le_refl _) hb3
    replace q0 := q0.call hb3
    replace s0 := s0.call hb3
    clear hb3 h1
    obtain ⟨s00, s01, s02, s03, s04⟩ := V2.mk s0.c0 s0.c1 s0.f0 s0.f1 s0.lt
    go_wp2_with fail
    refine bodyPost_ret (results_v2_tmp (b := w.heap.size + 1) (u := .int .u64 0) (v := .int .u64 0) ?_ rfl rfl) rfl ?_
    · first | exact V2.set s0 _ _ | exact s0
    · exact (HGO.out _ _).2 (.inl ⟨HX1.out, rfl, by repeat (first | exact Below.refl _ _ | with_reducible assumption | (refine bl_alloc ?_ (Nat.le_refl _) _) | (refine bl_set ?_ (by dsimp only; omega) _) | (refine Below.drew ?_) | (refine bl_drewN ?_ _) | (refine bl_call ?_ (Nat.le_refl _) (by assumption)))⟩)
  · have HX1 := Lib.hid h1
    obtain ⟨AW, cW, rfl⟩ := own_shape how
    have hws := own_sl rfl how
    clear q00 q01 q02 q03 q04
    replace hb00 := bl_call hb00 (Nat.le_refl _) hb3
    replace q0 := q0.call hb3
    replace s0 := s0.call hb3
    clear hb3 h1 how
    rw [HWL.out] at hws ⊢
    have HRD : Hid (∀ wz, SlK wz wz.heap.size (.slice AW N cW) W → Below w.heap.size w wz → Calls Tryd.prog 46 #[.int .u8 f, .slice AW N cW, .slice A N c] wz (RetK0 r wz)) := fun wz h hb => by
      have h2 := HDO.out _ _ W v wz h (H0.out.later hb) (by rw [HWL.out, HV.out]) (by rw [HWL.out]; omega)
      rw [HWL.out, HSU.out HX1.out] at h2
      exact h2
    go_wp2_with fail
    refine (HRD.out _ hws hb00).mono ?_
    rintro e w4 ⟨rfl, hb4⟩
    replace hb00 := bl_call hb00 (Nat.le_refl _) hb4
    replace q0 := q0.call hb4
    replace s0 := s0.call hb4
    clear hb4 hws
    obtain ⟨s00, s01, s02, s03, s04⟩ := V2.mk s0.c0 s0.c1 s0.f0 s0.f1 s0.lt
    go_wp2_with fail
    refine bodyPost_ret (results_v2_tmp (b := w.heap.size + 1) (u := .int .u64 (lo r)) (v := .int .u64 (hi r)) ?_ rfl rfl) rfl ?_
    · exact V2.set s0 _ _
    · exact (HGO.out _ _).2 (.inr ⟨HX1.out, rfl, by repeat (first | exact Below.refl _ _ | with_reducible assumption | (refine bl_alloc ?_ (Nat.le_refl _) _) | (refine bl_set ?_ (by dsimp only; omega) _) | (refine Below.drew ?_) | (refine bl_drewN ?_ _) | (refine bl_call ?_ (Nat.le_refl _) (by assumption)))⟩)
end

end Go.Proofs.YtfhmineolncefaaDoor

namespace Go.Proofs.YtfhmineolncefaaDoor
open Go Go.ChangeShapes Go.WideShapes Go.ChangeAt Go.WideMaps Go.WideElems Go.RowKit

theorem rng_u8 {n : Int} (h : (Lit.int .u8 n).wf = true) : 0 ≤ n ∧ n ≤ 255 := by simpa [Lit.wf, IntKind.min, IntKind.max, IntKind.signed, IntKind.bits] using h
theorem rng_u16 {n : Int} (h : (Lit.int .u16 n).wf = true) : 0 ≤ n ∧ n ≤ 65535 := by simpa [Lit.wf, IntKind.min, IntKind.max, IntKind.signed, IntKind.bits] using h
theorem rng_u64 {n : Int} (h : (Lit.int .u64 n).wf = true) : 0 ≤ n ∧ n ≤ 18446744073709551615 := by simpa [Lit.wf, IntKind.min, IntKind.max, IntKind.signed, IntKind.bits] using h
theorem rng_i64 {n : Int} (h : (Lit.int .i64 n).wf = true) : -9223372036854775808 ≤ n ∧ n ≤ 9223372036854775807 := by simpa [Lit.wf, IntKind.min, IntKind.max, IntKind.signed, IntKind.bits] using h
def laid2 : List (String × DataW Unit) := [("math/bits.deBruijn32tab", Rows.laid_math_bits_deBruijn32tab), ("math/bits.deBruijn64tab", Rows.laid_math_bits_deBruijn64tab)]
theorem g32 : Tryd.prog.globalNamed "math/bits.deBruijn32tab" = some 0 := by kernel_rfl
theorem g64 : Tryd.prog.globalNamed "math/bits.deBruijn64tab" = some 1 := by kernel_rfl
theorem t64 : (Tryd.prog.globals[1]?).map (·.type) = some 116 := by kernel_rfl
theorem c64 : Tryd.prog.cellsOf 116 = 64 := by kernel_rfl
theorem c8 : Tryd.prog.cellsOf 5 = 1 := by kernel_rfl

set_option maxRecDepth 100000 in
theorem door_met (os : Os) (args : Array Value) : laidMetH Tryd.prog laid2 ((World.doorLaid Tryd.prog 400 os).forCall (fun _ _ => 0) ⟨#[], args, []⟩).memory :=
  laidMetH_of_parts3 (fuel := 8) (laidMet_of_run' 8 (by kernel_rfl) (by kernel_rfl)) (by kernel_rfl) (by kernel_rfl)

theorem laid64_at : ∀ j, j < 64 → (match (Rows.laid_math_bits_deBruijn64tab : DataW Unit) with | .agg l => l[j]? | _ => none) = some (.lit (.int .u8 ((Lib.deBruijn64tab.getD j 0 : Nat) : Int))) := by
  intro j hj
  have h : ∀ j : Fin 64, (match (Rows.laid_math_bits_deBruijn64tab : DataW Unit) with | .agg l => l[j.val]? | _ => none) = some (.lit (.int .u8 ((Lib.deBruijn64tab.getD j.val 0 : Nat) : Int))) := by
    intro ⟨j, hj⟩
    have : j = 0 ∨ j = 1 ∨ j = 2 ∨ j = 3 ∨ j = 4 ∨ j = 5 ∨ j = 6 ∨ j = 7 ∨ j = 8 ∨ j = 9 ∨ j = 10 ∨ j = 11 ∨ j = 12 ∨ j = 13 ∨ j = 14 ∨ j = 15 ∨ j = 16 ∨ j = 17 ∨ j = 18 ∨ j = 19 ∨ j = 20 ∨ j = 21 ∨ j = 22 ∨ j = 23 ∨ j = 24 ∨ j = 25 ∨ j = 26 ∨ j = 27 ∨ j = 28 ∨ j = 29 ∨ j = 30 ∨ j = 31 ∨ j = 32 ∨ j = 33 ∨ j = 34 ∨ j = 35 ∨ j = 36 ∨ j = 37 ∨ j = 38 ∨ j = 39 ∨ j = 40 ∨ j = 41 ∨ j = 42 ∨ j = 43 ∨ j = 44 ∨ j = 45 ∨ j = 46 ∨ j = 47 ∨ j = 48 ∨ j = 49 ∨ j = 50 ∨ j = 51 ∨ j = 52 ∨ j = 53 ∨ j = 54 ∨ j = 55 ∨ j = 56 ∨ j = 57 ∨ j = 58 ∨ j = 59 ∨ j = 60 ∨ j = 61 ∨ j = 62 ∨ j = 63 := by omega
    rcases this with rfl|rfl|rfl|rfl|rfl|rfl|rfl|rfl|rfl|rfl|rfl|rfl|rfl|rfl|rfl|rfl|rfl|rfl|rfl|rfl|rfl|rfl|rfl|rfl|rfl|rfl|rfl|rfl|rfl|rfl|rfl|rfl|rfl|rfl|rfl|rfl|rfl|rfl|rfl|rfl|rfl|rfl|rfl|rfl|rfl|rfl|rfl|rfl|rfl|rfl|rfl|rfl|rfl|rfl|rfl|rfl|rfl|rfl|rfl|rfl|rfl|rfl|rfl|rfl <;> rfl
  exact h ⟨j, hj⟩

set_option maxRecDepth 100000 in
/-- WHAT THE CONDITION GIVES THE WALKS: the table. -/
theorem tab_of_laid {W : World} (h : laidMetH Tryd.prog laid2 W) : TabW W := by
  rw [MakeChecks.laidMetH_plain _ _ _ (by kernel_rfl)] at h
  obtain ⟨ps, ⟨g0, t0, cs0, f0, p0, q0, hg0, ht0, hv0, hd0, ⟨g1, t1, cs1, f1, p1, q1, hg1, ht1, hv1, hd1, _, _⟩, _⟩, _, _⟩ := h
  obtain rfl := Option.some.inj (g64.symm.trans hg1)
  obtain rfl := Option.some.inj (t64.symm.trans ht1)
  obtain ⟨xs, m1, rfl, hx1, hlen, hn, hel⟩ := DataW.trod_array Tryd.underlying116 hd1
  rw [c64] at hlen
  rw [c8] at hel
  have hat : ∀ j, j < 64 → cs1[j]? = some (.int .u8 ((Lib.deBruijn64tab.getD j 0 : Nat) : Int)) := by
    intro j hj
    have h1 := hel j hj
    rw [List.getElem?_eq_getElem (by omega)] at h1
    obtain ⟨k, e1, e2, _⟩ := DataW.trod_int Tryd.underlying5 h1
    have h2 := laid64_at j hj
    have h3 := congrArg Prod.fst hx1
    dsimp only at h3
    rw [h3] at h2
    dsimp only at h2
    rw [List.getElem?_map, List.getElem?_eq_getElem (by omega), Option.map_some, e2] at h2
    have h4 : k = ((Lib.deBruijn64tab.getD j 0 : Nat) : Int) := by
      injection h2 with h5
      injection h5 with h6
      injection h6
    rw [Nat.mul_one] at e1
    have h5 : (cs1.toList.drop j)[0]? = some (.int .u8 k) := by
      have h7 : ((cs1.toList.drop j).take 1)[0]? = some (.int .u8 k) := by rw [e1]; rfl
      rwa [List.getElem?_take_of_lt (by omega)] at h7
    rw [List.getElem?_drop, Nat.add_zero, Array.getElem?_toList, h4] at h5
    exact h5
  have hc : ∀ j, j < 64 → W.cell? ⟨1, j, none⟩ = some (.int .u8 ((Lib.deBruijn64tab.getD j 0 : Nat) : Int)) := fun j hj => (World.var?_cell g64 hv1 j).trans (hat j hj)
  exact ⟨fun j hj => hc j hj, lt_of_cell (hc 0 (by omega))⟩

end Go.Proofs.YtfhmineolncefaaDoor
