/-
  WALKS: gadget.Bit; tallymanlaw09.Awake, Small.Gadget.
-/
/-
  WALKS: circuit.within, weightBits, In, Out, Calls, Gadget.
-/
/-
  WALKS: the reference's circuits: used, WeightBits, Offset, In, Out, Calls, Joint, Arity, Domain.
-/
/-
  WALKS: ntt.Next; circuit.Joint, Domain, Gadget, Proof, Verifier, Most, offset; the reference's Joint, Domain, Arity.
-/
/-
  WALKS: circuit.Gadget, Proof, Verifier; Check of circuits in range.
-/
/-
  SINGLE STEPS of a region that does not draw, of any program; a whole store into the block made last.
-/
import Derived.Test.YtfhmineolncefaaDoorMai
import Derived.Laws.OwnMore
import Derived.Test.YtfhmineolncefaaDoorMah
import Derived.Test.YtfhmineolncefaaDoorProg
import Derived.Lib.Strings
import Derived.Lib.Slices
import Derived.Lib.Small
import Derived.Lib.Walk
import Derived.Lib.BitFns
import Derived.Test.YtfhmineolncefaaDoorMag
import Derived.Deep.WholeRow
namespace Go.Proofs.YtfhmineolncefaaDoor
open Go.RowKit Fm
set_option linter.unusedVariables false
set_option maxRecDepth 100000

theorem load_gadget {w : World} {b : Nat} {x y z : Value} (h : Vs w b [x, y, z]) : (loadVar 68 ⟨b, 0, none⟩).run Tryd.prog w = .ok (.agg #[x, y, z]) w := by
  obtain ⟨c0, c1, c2, _⟩ := h.get3
  simp [loadVar, go_sem, c0, c1, c2]
theorem results_gadget {fn : Func} {p : Tmp} {tmps : Array Value} {w : World} {b : Nat} {x y z : Value} (hv : Vs w b [x, y, z]) (h : fn.results = #[.cell p 68]) (hp : tmps.getD p undef = .pointer (some ⟨b, 0, none⟩)) :
    (results fn tmps).run Tryd.prog w = .ok (.agg #[x, y, z]) w := by
  have hl := load_gadget hv
  rw [Array.getD_eq_getD_getElem?] at hp
  simp only [results, h]
  simp [asAddr, hp, hl]

theorem Vs.set3 {w : World} {b : Nat} {x y z : Value} (h : Vs w b [x, y, z]) (p q r : Value) : Vs (((w.setCell ⟨b, 0, none⟩ p).setCell ⟨b, 1, none⟩ q).setCell ⟨b, 2, none⟩ r) b [p, q, r] :=
  ((h.put 0 (by simp) p).put 1 (by simp) q).put 2 (by simp) r
theorem bl_st3 {B b : Nat} {a w : World} (h : Below B a w) (hp : B ≤ b) (x y z : Value) : Below B a (((w.setCell ⟨b, 0, none⟩ x).setCell ⟨b, 1, none⟩ y).setCell ⟨b, 2, none⟩ z) := bl_set (bl_set (bl_set h hp x) hp y) hp z
theorem SlK.grow {f : Nat} {w w' : World} {B B' : Nat} {v : Value} {l : KL f} (h : SlK w B v l) (hb : Below B w w') (hB : B ≤ B') : SlK w' B' v l := (h.below hb).mono hB
theorem Vs.belowB {w w' : World} {b B : Nat} {cs : List Value} (h : Vs w b cs) (hb : Below B w w') (hB : b < B) : Vs w' b cs :=
  ⟨fun i v hi => (hb.cell (p := ⟨b, i, none⟩) hB).trans (h.cell i v hi), fun i hi => (hb.frozen (p := ⟨b, i, none⟩) hB).trans (h.frz i hi), Nat.lt_of_lt_of_le h.lt hb.size⟩
theorem own_call {w w' : World} {base : Nat} {e : TypeId} {size : Nat} {v : Value} {n : Nat} {xs : List Value} (h : w.ownsRow base e size v n xs) (hb : Below w.heap.size w w') : w'.ownsRow base e size v n xs := by
  refine ⟨h.1, ?_⟩
  rcases h.2 with h | ⟨g, cap, cur, h1, h2, h3, h4⟩
  · exact .inl h
  · have hlt : g < w.heap.size := (Array.getElem?_eq_some_iff.1 h3).1
    exact .inr ⟨g, cap, cur, h1, h2, (hb.block g hlt).trans h3, h4⟩

theorem own_slice {w : World} {base : Nat} {e : TypeId} {size : Nat} {v : Value} {n : Nat} {xs : List Value} (h : w.ownsRow base e size v (n + 1) xs) : ∃ g cap, v = .slice (some ⟨g, 0, none⟩) (n + 1) cap := by
  rcases h.2 with h | ⟨g, cap, cur, h1, _⟩
  · omega
  · exact ⟨g, cap, h1⟩

/-- a gadget that may be comes back -/
def RetG {f : Nat} (g : Gad f) (w : World) (e : Ending) (w' : World) : Prop :=
  ∃ (k : Int) (sl : Value) (n : Int), e = .returned (.agg #[.int .u8 k, sl, .int .i64 n]) ∧ RepG w' w'.heap.size k sl n g ∧ Below w.heap.size w w'

theorem BlkE.slK {f : Nat} {w : World} {g : Nat} {l : KL f} (h : BlkE w g (esK l)) (hn : l.length ≤ 9223372036854775807) {B : Nat} (hB : g < B) : SlK w B (.slice (some ⟨g, 0, none⟩) l.length l.length) l := by
  have := (h.sl (by rw [esK_length]; exact hn) (esK_ok l) hB).toK
  rwa [esK_length] at this

section
variable {f : Nat} (hf : IsF f)
include hf

set_option maxHeartbeats 4000000 in
theorem law09_Gadget (kind many : Int) (hk0 : 0 ≤ kind) (hk1 : kind ≤ 255) (hm0 : 0 ≤ many) (hm1 : many ≤ 255) (vs : Value) (xs : List E) (w : World) (hx : SlE w w.heap.size vs xs) :
    Calls Tryd.prog 52 #[.agg #[.int .u8 kind, vs, .int .u8 many], .int .i64 f] w (fun e w' => ∃ g : Gad f, RetG g w e w') := by
  have hor : kind % 3 = 0 ∨ kind % 3 = 1 ∨ kind % 3 = 2 := by omega
  obtain ⟨⟨A, c, rfl, hc, hcm, hA⟩, hok⟩ := hx
  rcases hor with hk | hk | hk
  · clear hA
    go_enter Tryd.func52, Tryd.ntmps52
    go_wp2
    refine bodyPost_ret (by simp [results, Tryd.results52, go_sem]) rfl ⟨.mul, 1, _, 0, rfl, ⟨rfl, rfl, rfl⟩, by repeat (first | exact Below.refl _ _ | with_reducible assumption | (refine bl_alloc ?_ (Nat.le_refl _) _) | (refine bl_set ?_ (by dsimp only; omega) _) | (refine Below.drew ?_) | (refine bl_drewN ?_ _) | (refine bl_call ?_ (Nat.le_refl _) (by assumption)))⟩
  · clear hA
    go_enter Tryd.func52, Tryd.ntmps52
    go_wp2
    refine bodyPost_ret (by simp [results, Tryd.results52, go_sem]; rfl) rfl ⟨.par (many % 5 + 1).toNat, 3, _, _, rfl, ⟨rfl, rfl, by omega, by omega, by omega⟩, by repeat (first | exact Below.refl _ _ | with_reducible assumption | (refine bl_alloc ?_ (Nat.le_refl _) _) | (refine bl_set ?_ (by dsimp only; omega) _) | (refine Below.drew ?_) | (refine bl_drewN ?_ _) | (refine bl_call ?_ (Nat.le_refl _) (by assumption)))⟩
  · obtain ⟨n, hn, hn2⟩ : ∃ n : Nat, (n : Int) = 2 + many % 3 ∧ n ≤ 4 := ⟨(2 + many % 3).toNat, by omega, by omega⟩
    have HK := Lib.hid hk
    have hn' : 2 + many % 3 = (n : Int) := hn.symm
    have hn3 : 2 ≤ n := by omega
    clear hn
    have hneq := eql_elem
    go_enter Tryd.func52, Tryd.ntmps52
    go_upto_region 7 with fail
    rw [hk]
    clear hk
    have hs := Vs.new w [.int .u8 kind, .slice A xs.length c, .int .u8 many] #[.int .u8 kind, .slice A xs.length c, .int .u8 many] 75 rfl
    replace hs := (hs.alloc (.cells #[.int .u8 0, .slice none 0 0, .int .i64 0] 68)).alloc (.cells #[.int .u8 2, .slice none 0 0, .int .i64 0] 68)
    have hr := (Vs.new (w.alloc (.cells #[.int .u8 kind, .slice A xs.length c, .int .u8 many] 75)) [.int .u8 0, .slice none 0 0, .int .i64 0] #[.int .u8 0, .slice none 0 0, .int .i64 0] 68 rfl).alloc (.cells #[.int .u8 2, .slice none 0 0, .int .i64 0] 68)
    have hx := Vs.new ((w.alloc (.cells #[.int .u8 kind, .slice A xs.length c, .int .u8 many] 75)).alloc (.cells #[.int .u8 0, .slice none 0 0, .int .i64 0] 68)) [.int .u8 2, .slice none 0 0, .int .i64 0] #[.int .u8 2, .slice none 0 0, .int .i64 0] 68 rfl
    simp only [World.size_alloc] at hr hx
    have hb00 : Below w.heap.size w (((w.alloc (.cells #[.int .u8 kind, .slice A xs.length c, .int .u8 many] 75)).alloc (.cells #[.int .u8 0, .slice none 0 0, .int .i64 0] 68)).alloc (.cells #[.int .u8 2, .slice none 0 0, .int .i64 0] 68)) := by repeat (first | exact Below.refl _ _ | with_reducible assumption | (refine bl_alloc ?_ (Nat.le_refl _) _) | (refine bl_set ?_ (by dsimp only; omega) _) | (refine Below.drew ?_) | (refine bl_drewN ?_ _) | (refine bl_call ?_ (Nat.le_refl _) (by assumption)))
    have hsz : w.heap.size + 3 ≤ (((w.alloc (.cells #[.int .u8 kind, .slice A xs.length c, .int .u8 many] 75)).alloc (.cells #[.int .u8 0, .slice none 0 0, .int .i64 0] 68)).alloc (.cells #[.int .u8 2, .slice none 0 0, .int .i64 0] 68)).heap.size := by simp only [World.size_alloc]; omega
    generalize ((w.alloc (.cells #[.int .u8 kind, .slice A xs.length c, .int .u8 many] 75)).alloc (.cells #[.int .u8 0, .slice none 0 0, .int .i64 0] 68)).alloc (.cells #[.int .u8 2, .slice none 0 0, .int .i64 0] 68) = w1 at hs hr hx hb00 hsz ⊢
    obtain ⟨s0, s1, s2, s3, s4, s5, s6⟩ := hs.get3
    go_wp2_with fail
    go_loopw [29] (fun i wr => ∃ (k : Nat) (vr : Value) (ks : KL f), k ≤ n ∧ i = .int .i64 k ∧ Vs wr w.heap.size [.int .u8 kind, .slice A xs.length c, .int .u8 many] ∧ Vs wr (w.heap.size + 1) [.int .u8 0, .slice none 0 0, .int .i64 0] ∧
        Vs wr (w.heap.size + 1 + 1) [.int .u8 2, vr, .int .i64 0] ∧ wr.ownsRow (w.heap.size + 3) 28 2 vr k (cellsE (esK ks)) ∧ ks.length = k ∧ Below w.heap.size w wr ∧ w.heap.size + 3 ≤ wr.heap.size) (fun i _ => n - (intOf i).toNat)
    case atStart =>
      exact ⟨0, .slice none 0 0, [], Nat.zero_le _, rfl, hs, hr, hx, World.ownsRow_nil _ _ _ _, rfl, by repeat (first | exact Below.refl _ _ | with_reducible assumption | (refine bl_alloc ?_ (Nat.le_refl _) _) | (refine bl_set ?_ (by dsimp only; omega) _) | (refine Below.drew ?_) | (refine bl_drewN ?_ _) | (refine bl_call ?_ (Nat.le_refl _) (by assumption))), hsz⟩
    case round =>
      clear hs hr hx hb00 hsz s0 s1 s2 s3 s4 s5 s6
      obtain ⟨k, vr, ks, hk, rfl, hs, hr, hx, hown, hkl, hbw, hsz⟩ := hrel
      obtain ⟨s0, s1, s2, s3, s4, s5, s6⟩ := hs.get3
      by_cases hlt : k < n
      · go_upto_if 36 with fail
        go_cut [] (fun wx => ∃ y : Fin (Pm f), V2 wx wr.heap.size (.int .u64 (lo y)) (.int .u64 (hi y)) ∧ Below wr.heap.size wr wx)
        case first =>
          have hc0 := V2.new wr (.int .u64 0) (.int .u64 0) 28
          have hbc : Below wr.heap.size wr (wr.alloc (.cells #[.int .u64 0, .int .u64 0] 28)) := by repeat (first | exact Below.refl _ _ | with_reducible assumption | (refine bl_alloc ?_ (Nat.le_refl _) _) | (refine bl_set ?_ (by dsimp only; omega) _) | (refine Below.drew ?_) | (refine bl_drewN ?_ _) | (refine bl_call ?_ (Nat.le_refl _) (by assumption)))
          by_cases hkx : k < xs.length
          · obtain ⟨b, o, rfl, hB, hrow⟩ := hA (by omega)
            obtain ⟨⟨e0, e1⟩, he⟩ : ∃ e, xs[k]? = some e := ⟨_, List.getElem?_eq_getElem hkx⟩
            obtain ⟨h0, h1, h2, h3⟩ := hok _ (List.mem_of_getElem? he)
            obtain ⟨d0, d1⟩ := (hrow.below hbw hB) k _ he
            dsimp only at h0 h1 h2 h3 d0 d1
            have hbl : b < wr.heap.size := Nat.lt_of_lt_of_le hB hbw.size
            have HO := Lib.hid (fun wz => ref_OfL hf e0 e1 wz h0 h1 h2 h3)
            clear he hrow hA
            go_wp2_with (go_at_call 17; refine (HO.out _).mono ?_; rintro e w6 ⟨rfl, hb6⟩; obtain ⟨c0, c1, c2, c3, c4⟩ := hc0.call hb6)
            go_meet
            exact ⟨_, V2.set ⟨c0, c1, c2, c3, c4⟩ _ _, by repeat (first | exact Below.refl _ _ | with_reducible assumption | (refine bl_alloc ?_ (Nat.le_refl _) _) | (refine bl_set ?_ (by dsimp only; omega) _) | (refine Below.drew ?_) | (refine bl_drewN ?_ _) | (refine bl_call ?_ (Nat.le_refl _) (by assumption)))⟩
          · go_wp2_with fail
            go_meet
            exact ⟨0, by rw [lo_zero, hi_zero]; exact hc0, by repeat (first | exact Below.refl _ _ | with_reducible assumption | (refine bl_alloc ?_ (Nat.le_refl _) _) | (refine bl_set ?_ (by dsimp only; omega) _) | (refine Below.drew ?_) | (refine bl_drewN ?_ _) | (refine bl_call ?_ (Nat.le_refl _) (by assumption)))⟩
        case rest =>
          obtain ⟨y, hy, hb6⟩ := hcut
          obtain ⟨c0, c1, c2, c3, c4⟩ := hy
          obtain ⟨x0, x1, x2, x3, x4, x5, x6⟩ := (hx.call hb6).get3
          have hown6 := own_call hown hb6
          have hsz6 : w.heap.size + 3 ≤ wc.heap.size := Nat.le_trans hsz hb6.size
          have hx6 := hx.call hb6
          have hs6 := hs.call hb6
          have hr6 := hr.call hb6
          have hbw6 : Below w.heap.size w wc := bl_call hbw (Nat.le_refl _) hb6
          clear s0 s1 s2 s3 s4 s5 s6
          have HR1 := Lib.hid (show 0 < 1 → ∃ b o, (some ⟨wc.heap.size, 0, none⟩ : Option Addr) = some ⟨b, o, none⟩ ∧ RowE (wc.alloc (.cells #[.int .u64 (lo y), .int .u64 (hi y)] 28)) b o [eK y] from fun _ => ⟨_, _, rfl, (BlkE.new wc [eK y] _ rfl).rowE⟩)
          have HOW := Lib.hid (hown6.alloc (.cells #[.int .u64 (lo y), .int .u64 (hi y)] 28))
          have hk1 : k + 1 ≤ 1099511627776 := by omega
          have hzz : w.heap.size + 3 ≤ (wc.alloc (.cells #[.int .u64 (lo y), .int .u64 (hi y)] 28)).heap.size := by rw [World.size_alloc]; omega
          have hxA := hx6.alloc (.cells #[.int .u64 (lo y), .int .u64 (hi y)] 28)
          have hlt3 : w.heap.size + 1 + 1 < w.heap.size + 3 := by omega
          go_wp2_with (at_builtin; (refine wpList_append_E rfl (.tmp 45) (.tmp 47) rfl (w.heap.size + 3) _ k (esK ks) rfl HOW.out (some ⟨wc.heap.size, 0, none⟩) 1 1 [eK y] rfl rfl HR1.out hk1 hzz ?_; intro v2 w2 hown2 hg2 hat2; have hb2 : Below (w.heap.size + 3) (wc.alloc (.cells #[.int .u64 (lo y), .int .u64 (hi y)] 28)) w2 := (Below.refl _ _).grown hg2 hzz (fun q hq => (HOW.out.lt q hq).1); have hx2 := hxA.belowB hb2 hlt3; obtain ⟨x0, x1, x2, x3, x4, x5, x6⟩ := hx2.get3; obtain ⟨g2, cap2, hv2⟩ := own_slice hown2; rw [hv2]))
          have hs2 := (hs6.alloc (.cells #[.int .u64 (lo y), .int .u64 (hi y)] 28)).belowB hb2 (by omega)
          have hr2 := (hr6.alloc (.cells #[.int .u64 (lo y), .int .u64 (hi y)] 28)).belowB hb2 (by omega)
          have hbw2 : Below w.heap.size w w2 := (hbw6.alloc (Nat.le_trans (by omega) hsz6) (.cells #[.int .u64 (lo y), .int .u64 (hi y)] 28)).trans (hb2.mono (by omega))
          have hz2 := hb2.size
          rw [World.size_alloc] at hz2
          go_roundw
          case rel =>
            rw [hv2] at hown2
            refine ⟨k + 1, _, ks ++ [y], by omega, by go_num, hs2.far (by dsimp only; omega) _, hr2.far (by dsimp only; omega) _, hx2.put 1 (by simp) _, ?_, by simp [hkl], by repeat (first | exact Below.refl _ _ | with_reducible assumption | (refine bl_alloc ?_ (Nat.le_refl _) _) | (refine bl_set ?_ (by dsimp only; omega) _) | (refine Below.drew ?_) | (refine bl_drewN ?_ _) | (refine bl_call ?_ (Nat.le_refl _) (by assumption))), ?_⟩
            · rw [esK_append]
              exact ownsRow_setCell_below hown2 (by dsimp only; omega) _
            · have : (w2.setCell ⟨w.heap.size + 1 + 1, 1, none⟩ (.slice (some ⟨g2, 0, none⟩) (k + 1) cap2)).heap.size = w2.heap.size := by simp [World.setCell]
              omega
          case measure => simp [intOf]; omega
      · obtain rfl : k = n := by omega
        obtain ⟨m, rfl⟩ : ∃ m, k = m + 1 := ⟨k - 1, by omega⟩
        obtain ⟨g, cap, hvr⟩ := own_slice hown
        rw [hvr] at hown hx
        have hg3 : w.heap.size + 3 ≤ g := (hown.lt g rfl).1
        have hgl : g < wr.heap.size := (hown.lt g rfl).2
        obtain ⟨y, hy⟩ : ∃ e, ks[m]? = some e := ⟨_, List.getElem?_eq_getElem (by omega)⟩
        obtain ⟨e0, e1⟩ := cellsE_at (esK ks) m _ (esK_at hy)
        have c0 := (hown.cellAt (m * 2) (by omega)).trans e0
        have c1 := (hown.cellAt (m * 2 + 1) (by omega)).trans e1
        have f0 := hown.frozenAt (m * 2)
        have f1 := hown.frozenAt (m * 2 + 1)
        have HY := Lib.hid hy
        have HKL := Lib.hid hkl
        clear hvr e0 e1 hy hkl s0 s1 s2 s3 s4 s5 s6 hs hA
        obtain ⟨x0, x1, x2, x3, x4, x5, x6⟩ := hx.get3
        obtain ⟨r0, r1, r2, r3, r4, r5, r6⟩ := hr.get3
        have hmm : (m : Int) + 1 - 1 = (m : Int) := by omega
        by_cases hy0 : y = 0
        · subst hy0
          rw [show (eK (0 : Fin (Pm f))).1 = 0 from lo_zero] at c0
          rw [show (eK (0 : Fin (Pm f))).2 = 0 from hi_zero] at c1
          go_wp2_with fail
          obtain ⟨hown1, _⟩ := hown.stored (m * 2) (.int .u64 1)
          obtain ⟨hown2, _⟩ := hown1.stored (m * 2 + 1) (.int .u64 0)
          rw [cellsE_set, show (esK ks).set m (1, 0) = esK (ks.set m 1) by unfold esK; rw [List.map_set, eK_one]] at hown2
          have hown3 := ownsRow_setCell_below (ownsRow_setCell_below (ownsRow_setCell_below hown2 (a := ⟨w.heap.size + 1, 0, none⟩) (by dsimp only; omega) (.int .u8 2)) (a := ⟨w.heap.size + 1, 1, none⟩) (by dsimp only; omega) (.slice (some ⟨g, 0, none⟩) (m + 1) cap)) (a := ⟨w.heap.size + 1, 2, none⟩) (by dsimp only; omega) (.int .i64 0)
          have hr3 := Vs.set3 ((hr.far (p := ⟨g, m * 2, none⟩) (by dsimp only; omega) (.int .u64 1)).far (p := ⟨g, m * 2 + 1, none⟩) (by dsimp only; omega) (.int .u64 0)) (.int .u8 2) (.slice (some ⟨g, 0, none⟩) (m + 1) cap) (.int .i64 0)
          have hl2 : (ks.set m 1).length = m + 1 := by rw [List.length_set]; exact HKL.out
          refine bodyPost_ret (results_gadget (b := w.heap.size + 1) hr3 rfl rfl) rfl ⟨.eval (ks.set m 1), 2, _, 0, rfl, ⟨rfl, rfl, ?_, ⟨m, 1, hl2, ?_, k_one_ne, by omega, by omega⟩⟩, by repeat (first | exact Below.refl _ _ | with_reducible assumption | (refine bl_alloc ?_ (Nat.le_refl _) _) | (refine bl_set ?_ (by dsimp only; omega) _) | (refine Below.drew ?_) | (refine bl_drewN ?_ _) | (refine bl_call ?_ (Nat.le_refl _) (by assumption)))⟩
          · have h := SlE.of_own (by rw [esK_length, hl2]; exact hown3) (esK_ok (ks.set m 1))
            exact h.toK
          · rw [List.getElem?_set_self (by have := HKL.out; omega)]
        · have hd : (lo y == 0 && hi y == 0) = false := by rw [lohi_zero, decide_eq_false hy0]
          have c0' : wr.cell? ⟨g, m * 2, none⟩ = some (.int .u64 (lo y)) := c0
          have c1' : wr.cell? ⟨g, m * 2 + 1, none⟩ = some (.int .u64 (hi y)) := c1
          clear c0 c1
          go_wp2_with fail
          have hown3 := ownsRow_setCell_below (ownsRow_setCell_below (ownsRow_setCell_below hown (a := ⟨w.heap.size + 1, 0, none⟩) (by dsimp only; omega) (.int .u8 2)) (a := ⟨w.heap.size + 1, 1, none⟩) (by dsimp only; omega) (.slice (some ⟨g, 0, none⟩) (m + 1) cap)) (a := ⟨w.heap.size + 1, 2, none⟩) (by dsimp only; omega) (.int .i64 0)
          have hr3 := Vs.set3 hr (.int .u8 2) (.slice (some ⟨g, 0, none⟩) (m + 1) cap) (.int .i64 0)
          refine bodyPost_ret (results_gadget (b := w.heap.size + 1) hr3 rfl rfl) rfl ⟨.eval ks, 2, _, 0, rfl, ⟨rfl, rfl, ?_, ⟨m, y, HKL.out, HY.out, hy0, by omega, by omega⟩⟩, by repeat (first | exact Below.refl _ _ | with_reducible assumption | (refine bl_alloc ?_ (Nat.le_refl _) _) | (refine bl_set ?_ (by dsimp only; omega) _) | (refine Below.drew ?_) | (refine bl_drewN ?_ _) | (refine bl_call ?_ (Nat.le_refl _) (by assumption)))⟩
          have h := SlE.of_own (by rw [esK_length, HKL.out]; exact hown3) (esK_ok ks)
          exact h.toK

end

end Go.Proofs.YtfhmineolncefaaDoor

namespace Go.Proofs.YtfhmineolncefaaDoor
open Go.RowKit Fm
set_option linter.unusedVariables false
set_option maxRecDepth 100000

/-- a number comes back -/
def RetI (n : Nat) (w : World) (e : Ending) (w' : World) : Prop := e = .returned (.int .i64 (n : Int)) ∧ Below w.heap.size w w'

theorem val_count (f : Nat) : CK.count.val f = .agg #[.int .u8 1, .int .u8 f, .int .i64 0, .int .i64 0, .int .i64 0, .int .i64 0] := rfl
theorem val_sum (f b : Nat) : (CK.sum b).val f = .agg #[.int .u8 2, .int .u8 f, .int .i64 b, .int .i64 0, .int .i64 0, .int .i64 0] := rfl
theorem val_vec (f b l c : Nat) : (CK.vec b l c).val f = .agg #[.int .u8 3, .int .u8 f, .int .i64 b, .int .i64 l, .int .i64 0, .int .i64 c] := rfl
theorem val_hist (f l c : Nat) : (CK.hist l c).val f = .agg #[.int .u8 4, .int .u8 f, .int .i64 0, .int .i64 l, .int .i64 0, .int .i64 c] := rfl
theorem val_multi (f l m c : Nat) : (CK.multi l m c).val f = .agg #[.int .u8 5, .int .u8 f, .int .i64 0, .int .i64 l, .int .i64 m, .int .i64 c] := rfl

end Go.Proofs.YtfhmineolncefaaDoor

namespace Go.Proofs.YtfhmineolncefaaDoor
open Go.RowKit Fm
set_option linter.unusedVariables false
set_option maxRecDepth 100000

theorem rval_count (f : Nat) : CK.count.rval f = .agg #[.int .i64 1, .int .i64 f, .int .i64 0, .int .i64 0, .int .i64 0, .int .i64 0] := rfl
theorem rval_sum (f b : Nat) : (CK.sum b).rval f = .agg #[.int .i64 2, .int .i64 f, .int .i64 b, .int .i64 0, .int .i64 0, .int .i64 0] := rfl
theorem rval_vec (f b l c : Nat) : (CK.vec b l c).rval f = .agg #[.int .i64 3, .int .i64 f, .int .i64 b, .int .i64 l, .int .i64 0, .int .i64 c] := rfl
theorem rval_hist (f l c : Nat) : (CK.hist l c).rval f = .agg #[.int .i64 4, .int .i64 f, .int .i64 0, .int .i64 l, .int .i64 0, .int .i64 c] := rfl
theorem rval_multi (f l m c : Nat) : (CK.multi l m c).rval f = .agg #[.int .i64 5, .int .i64 f, .int .i64 0, .int .i64 l, .int .i64 m, .int .i64 c] := rfl

theorem bitLen_half : ∀ m : Nat, m ≤ 64 → 0 < m → Lib.bitLen m = Lib.bitLen (m / 2) + 1 := by decide +kernel

/-- what is added to how many are 1 -/
def offN (m : Nat) : Nat := 2 ^ Lib.bitLen m - 1 - m

end Go.Proofs.YtfhmineolncefaaDoor

namespace Go.Proofs.YtfhmineolncefaaDoor
open Go.RowKit Fm
set_option linter.unusedVariables false
set_option maxRecDepth 100000

theorem ntt_Next (n : Nat) (hn : n ≤ 1024) (w : World) : Calls Tryd.prog 27 #[.int .i64 n] w fun e w' => e = .returned (.int .i64 (nextP n)) ∧ w = w' := by
  go_enter Tryd.func27, Tryd.ntmps27
  go_wp2
  go_loop [3] (fun o => ∃ p : Nat, o = .int .i64 p ∧ Hid (OnWay n p) ∧ p ≤ 1024) (fun o => 1024 - (intOf o).toNat)
  case atStart => exact ⟨1, rfl, onWay_one n, by omega⟩
  case round =>
    obtain ⟨p, rfl, hp, hp2⟩ := hrel
    by_cases hlt : p < n
    · have h1 : p < 1024 := by omega
      have h2 := onWay_next hp.out hlt h1
      have h3 := (onWay_le h2).2
      have H2 := Lib.hid h2
      have h4 := (onWay_le hp.out).1
      clear h2
      go_wp2
      go_round
      case rel => exact ⟨2 * p, by go_num, H2.out, h3⟩
      case measure => simp [intOf]; omega
    · have h5 := Lib.hid (onWay_end hp.out hn hlt)
      go_wp2
      go_ret
      exact ⟨ret_int (by rw [h5.out]), rfl⟩

section
variable (f : Nat) (y : CK) (hy : y.ok)
include hy

end

/-- how much one adds at most -/
def CK.most : CK → Nat
  | sum b => 2 ^ b - 1
  | vec b _ _ => 2 ^ b - 1
  | _ => 1

def RetU (n : Nat) (w : World) (e : Ending) (w' : World) : Prop := e = .returned (.int .u64 (n : Int)) ∧ Below w.heap.size w w'

theorem pow32 {b : Nat} (h : b ≤ 32) : 1 ≤ 2 ^ b ∧ 2 ^ b ≤ 4294967296 := ⟨Nat.one_le_two_pow, Nat.le_trans (Nat.pow_le_pow_right (by omega) h) (by decide)⟩

/-! ### the reference's circuit of a circuit -/
end Go.Proofs.YtfhmineolncefaaDoor

namespace Go.Proofs.YtfhmineolncefaaDoor
open Go.RowKit Fm
set_option linter.unusedVariables false
set_option maxRecDepth 100000

section
variable {f : Nat} (hf : IsF f)
include hf

omit hf in
theorem setCell_size (w : World) (p : Addr) (x : Value) : (w.setCell p x).heap.size = w.heap.size := by simp [World.setCell]

omit hf in
/-- a gadget's coefficients are a slice -/
theorem RepG.sl {w : World} {B : Nat} {k : Int} {sl : Value} {n : Int} {g : Gad f} (hg : RepG w B k sl n g) : ∃ (A : Option Addr) (a b : Nat), sl = .slice A a b := by
  cases g with
  | mul => exact ⟨_, _, _, hg.2.1⟩
  | par m => exact ⟨_, _, _, hg.2.1⟩
  | eval cs =>
    obtain ⟨A, c, h, _⟩ := hg.2.2.1
    exact ⟨_, _, _, h⟩

/-- how many elements a proof has -/
def CK.proof (y : CK) : Nat := y.arity + 2 * (nextP (y.calls + 1) - 1) + 1

omit hf in
theorem CK.arity_le {y : CK} (h : y.ok) : 1 ≤ y.arity ∧ y.arity ≤ 32 := by
  cases y with
  | count => exact ⟨by show 1 ≤ 2; omega, by show 2 ≤ 32; omega⟩
  | sum b => exact ⟨by show 1 ≤ 1; omega, by show 1 ≤ 32; omega⟩
  | vec b l c => have := h.2.2; exact ⟨by show 1 ≤ 2 * c; omega, by show 2 * c ≤ 32; omega⟩
  | hist l c => have := h.2; exact ⟨by show 1 ≤ 2 * c; omega, by show 2 * c ≤ 32; omega⟩
  | multi l m c => have := h.2.2; exact ⟨by show 1 ≤ 2 * c; omega, by show 2 * c ≤ 32; omega⟩

end

end Go.Proofs.YtfhmineolncefaaDoor

namespace Go.Proofs.YtfhmineolncefaaDoor
open Go Go.RowKit
set_option linter.unusedVariables false

theorem wpList_val {P : Program} {ops : Array Oper} {Q : Exit → Act → World → Prop} {a : Act} {w w' : World} {rest : List Oper} {o : Oper} {v : Value} (hg : o.guard = none)
    (h : (execOp a.eval o).run P w = .ok (.value v) w') (hK : wpList P ops Q rest (a.put o.dst v) w') : wpList P ops Q (o :: rest) a w := by
  refine wpList_plain hg fun K hk => ?_
  unfold Oper.wp
  rw [h]
  exact hk _ _ hK
theorem wpList_skip {P : Program} {ops : Array Oper} {Q : Exit → Act → World → Prop} {a : Act} {w w' : World} {rest : List Oper} {o : Oper} (hg : o.guard = none)
    (h : (execOp a.eval o).run P w = .ok .skip w') (hK : wpList P ops Q rest (a.put o.dst undef) w') : wpList P ops Q (o :: rest) a w := by
  refine wpList_plain hg fun K hk => ?_
  unfold Oper.wp
  rw [h]
  exact hk _ _ hK
theorem exec_store_new {P : Program} (ρ : Operand → Value) (o : Oper) (t : TypeId) (x y : Operand) (ho : o.op = .store t x y) (w : World) (c c' : Array Value) (hx : ρ x = .pointer (some ⟨w.heap.size, 0, none⟩)) (hy : ρ y = .agg c')
    (hi : (P.info? t).map (·.size) = some c'.size) (hs : c.size = c'.size) (h1 : c'.all (·.oneCell') = true) : (execOp ρ o).run P (w.alloc (.cells c t)) = .ok .skip (w.alloc (.cells c' t)) := by
  have h := run_storeAt_new (P := P) w t c c' hi hs h1
  unfold execOp
  simp only [ho, hx, hy, Sem.run_bind, h, Result.andThen_ok, Sem.run_pure]

end Go.Proofs.YtfhmineolncefaaDoor
