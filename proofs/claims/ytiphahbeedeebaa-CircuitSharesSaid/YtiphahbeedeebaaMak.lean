/-
  WALKS: gadget.Bit; tallymanlaw09.Awake, Small.Gadget.
-/
/-
  WALKS: circuit.within, weightBits, In, Out, Calls, Gadget.
-/
/-
  WALKS: the reference's circuits: used, WeightBits, Offset, In, Out, Calls, Joint, Arity, Domain.
-/
/-
  WALKS: ntt.Next; circuit.Joint, Domain, Gadget, Proof, Verifier, Most, offset; the reference's Joint, Domain, Arity.
-/
import Derived.Test.YtiphahbeedeebaaMaj
import Derived.Laws.OwnMore
import Derived.Test.YtiphahbeedeebaaMai
import Derived.Test.YtiphahbeedeebaaLenM
import Derived.Test.YtiphahbeedeebaaMah
namespace Go.Proofs.Ytiphahbeedeebaa
open Go.RowKit Fm
set_option linter.unusedVariables false
set_option maxRecDepth 100000

theorem load_gadget {w : World} {b : Nat} {x y z : Value} (h : Vs w b [x, y, z]) : (loadVar 47 ⟨b, 0, none⟩).run Try.prog w = .ok (.agg #[x, y, z]) w := by
  obtain ⟨c0, c1, c2, _⟩ := h.get3
  simp [loadVar, go_sem, c0, c1, c2]
theorem results_gadget {fn : Func} {p : Tmp} {tmps : Array Value} {w : World} {b : Nat} {x y z : Value} (hv : Vs w b [x, y, z]) (h : fn.results = #[.cell p 47]) (hp : tmps.getD p undef = .pointer (some ⟨b, 0, none⟩)) :
    (results fn tmps).run Try.prog w = .ok (.agg #[x, y, z]) w := by
  have hl := load_gadget hv
  rw [Array.getD_eq_getD_getElem?] at hp
  simp only [results, h]
  simp [asAddr, hp, hl]

theorem Vs.set3 {w : World} {b : Nat} {x y z : Value} (h : Vs w b [x, y, z]) (p q r : Value) : Vs (((w.setCell ⟨b, 0, none⟩ p).setCell ⟨b, 1, none⟩ q).setCell ⟨b, 2, none⟩ r) b [p, q, r] :=
  ((h.put 0 (by simp) p).put 1 (by simp) q).put 2 (by simp) r
theorem bl_st3 {B b : Nat} {a w : World} (h : Below B a w) (hp : B ≤ b) (x y z : Value) : Below B a (((w.setCell ⟨b, 0, none⟩ x).setCell ⟨b, 1, none⟩ y).setCell ⟨b, 2, none⟩ z) := bl_set (bl_set (bl_set h hp x) hp y) hp z
theorem SlK.grow {f : Nat} {w w' : World} {B B' : Nat} {v : Value} {l : KL f} (h : SlK w B v l) (hb : Below B w w') (hB : B ≤ B') : SlK w' B' v l := (h.below hb).mono hB
theorem Vs.belowB {w w' : World} {b B : Nat} {cs : List Value} (h : Vs w b cs) (hb : Below B w w') (hB : b < B) : Vs w' b cs :=
  ⟨fun i v hi => (hb.cell (p := ⟨b, i, none⟩) hB).trans (h.cell i v hi), fun i hi => (hb.frozen (p := ⟨b, i, none⟩) hB).trans (h.frz i hi), Nat.lt_of_lt_of_le h.lt hb.size⟩
theorem own_call {w w' : World} {base : Nat} {e : TypeId} {size : Nat} {v : Value} {n : Nat} {xs : List Value} (h : w.ownsRow base e size v n xs) (hb : Below w.heap.size w w') : w'.ownsRow base e size v n xs := by
  refine ⟨h.1, ?_⟩
  rcases h.2 with h | ⟨g, cap, cur, h1, h2, h3, h4⟩
  · exact .inl h
  · have hlt : g < w.heap.size := (Array.getElem?_eq_some_iff.1 h3).1
    exact .inr ⟨g, cap, cur, h1, h2, (hb.block g hlt).trans h3, h4⟩

theorem own_slice {w : World} {base : Nat} {e : TypeId} {size : Nat} {v : Value} {n : Nat} {xs : List Value} (h : w.ownsRow base e size v (n + 1) xs) : ∃ g cap, v = .slice (some ⟨g, 0, none⟩) (n + 1) cap := by
  rcases h.2 with h | ⟨g, cap, cur, h1, _⟩
  · omega
  · exact ⟨g, cap, h1⟩

/-- a gadget that may be comes back -/
def RetG {f : Nat} (g : Gad f) (w : World) (e : Ending) (w' : World) : Prop :=
  ∃ (k : Int) (sl : Value) (n : Int), e = .returned (.agg #[.int .u8 k, sl, .int .i64 n]) ∧ RepG w' w'.heap.size k sl n g ∧ Below w.heap.size w w'

theorem BlkE.slK {f : Nat} {w : World} {g : Nat} {l : KL f} (h : BlkE w g (esK l)) (hn : l.length ≤ 9223372036854775807) {B : Nat} (hB : g < B) : SlK w B (.slice (some ⟨g, 0, none⟩) l.length l.length) l := by
  have := (h.sl (by rw [esK_length]; exact hn) (esK_ok l) hB).toK
  rwa [esK_length] at this

section
variable {f : Nat} (hf : IsF f)
include hf

set_option maxHeartbeats 4000000 in
theorem gadget_Bit (w : World) : Calls Try.prog 33 #[.int .u8 f] w (RetG (.eval [0, -1, 1] : Gad f) w) := by
  go_enter Try.func33, Try.ntmps33
  go_upto_region 1 with fail
  have hr := Vs.new w [.int .u8 0, .slice none 0 0, .int .i64 0] #[.int .u8 0, .slice none 0 0, .int .i64 0] 47 rfl
  have hb00 : Below w.heap.size w (w.alloc (.cells #[.int .u8 0, .slice none 0 0, .int .i64 0] 47)) := by repeat (first | exact Below.refl _ _ | with_reducible assumption | (refine bl_alloc ?_ (Nat.le_refl _) _) | (refine bl_set ?_ (by dsimp only; omega) _) | (refine Below.drew ?_) | (refine bl_drewN ?_ _) | (refine bl_call ?_ (Nat.le_refl _) (by assumption)))
  generalize w.alloc (.cells #[.int .u8 0, .slice none 0 0, .int .i64 0] 47) = w1 at hr hb00 ⊢
  have H1 := Lib.hid (field_One hf)
  have H2 := Lib.hid (field_NegK hf (1 : Fin (Pm f)))
  have hmark : True := trivial
  obtain ⟨a0, a1, a2, a3, a4, a5, a6⟩ := hr.get3
  go_wp2_with (first
    | (go_at_call 53; refine (H1.out _).mono ?_; rintro e w2 ⟨rfl, hb2⟩; replace hr := hr.call hb2; replace hb00 := bl_call hb00 (Nat.le_refl _) hb2; obtain ⟨a0, a1, a2, a3, a4, a5, a6⟩ := hr.get3)
    | (go_at_call 94; refine (H2.out _).mono ?_; rintro e w2 ⟨rfl, hb2⟩; replace hr := hr.call hb2; replace hb00 := bl_call hb00 (Nat.le_refl _) hb2; obtain ⟨a0, a1, a2, a3, a4, a5, a6⟩ := hr.get3))
  have hne : w.heap.size < w2.heap.size := hr.lt
  have hrw := Vs.set3 hr (.int .u8 2) (.slice (some ⟨w2.heap.size, 0, none⟩) 3 3) (.int .i64 0)
  have hbw := bl_st3 hb00 (Nat.le_refl _) (.int .u8 2) (.slice (some ⟨w2.heap.size, 0, none⟩) 3 3) (.int .i64 0)
  have hsz : (((w2.setCell ⟨w.heap.size, 0, none⟩ (.int .u8 2)).setCell ⟨w.heap.size, 1, none⟩ (.slice (some ⟨w2.heap.size, 0, none⟩) 3 3)).setCell ⟨w.heap.size, 2, none⟩ (.int .i64 0)).heap.size = w2.heap.size := by simp [World.setCell]
  generalize ((w2.setCell ⟨w.heap.size, 0, none⟩ (.int .u8 2)).setCell ⟨w.heap.size, 1, none⟩ (.slice (some ⟨w2.heap.size, 0, none⟩) 3 3)).setCell ⟨w.heap.size, 2, none⟩ (.int .i64 0) = w4 at hrw hbw hsz ⊢
  have hB : BlkE (w4.alloc (.cells #[.int .u64 0, .int .u64 0, .int .u64 (lo (-(1 : Fin (Pm f)))), .int .u64 (hi (-(1 : Fin (Pm f)))), .int .u64 (lo (1 : Fin (Pm f))), .int .u64 (hi (1 : Fin (Pm f)))] 41)) w4.heap.size (esK [0, -1, 1] : List E) :=
    BlkE.new w4 _ _ (by
      show _ = (Value.int .u64 (lo (0 : Fin (Pm f))) :: .int .u64 (hi (0 : Fin (Pm f))) :: _).toArray
      rw [lo_zero, hi_zero]
      rfl)
  rw [hsz] at hB
  refine bodyPost_ret (results_gadget (b := w.heap.size) (hrw.alloc _) rfl rfl) rfl ⟨2, _, 0, rfl, ⟨rfl, rfl, hB.slK (by simp) hB.lt, ⟨2, 1, rfl, rfl, k_one_ne, by omega, by omega⟩⟩, by repeat (first | exact Below.refl _ _ | with_reducible assumption | (refine bl_alloc ?_ (Nat.le_refl _) _) | (refine bl_set ?_ (by dsimp only; omega) _) | (refine Below.drew ?_) | (refine bl_drewN ?_ _) | (refine bl_call ?_ (Nat.le_refl _) (by assumption)))⟩

set_option maxHeartbeats 4000000 in
theorem law09_Gadget (kind many : Int) (hk0 : 0 ≤ kind) (hk1 : kind ≤ 255) (hm0 : 0 ≤ many) (hm1 : many ≤ 255) (vs : Value) (xs : List E) (w : World) (hx : SlE w w.heap.size vs xs) :
    Calls Try.prog 27 #[.agg #[.int .u8 kind, vs, .int .u8 many], .int .i64 f] w (fun e w' => ∃ g : Gad f, RetG g w e w') := by
  have hor : kind % 3 = 0 ∨ kind % 3 = 1 ∨ kind % 3 = 2 := by omega
  obtain ⟨⟨A, c, rfl, hc, hcm, hA⟩, hok⟩ := hx
  rcases hor with hk | hk | hk
  · clear hA
    go_enter Try.func27, Try.ntmps27
    go_wp2
    refine bodyPost_ret (by simp [results, Try.results27, go_sem]) rfl ⟨.mul, 1, _, 0, rfl, ⟨rfl, rfl, rfl⟩, by repeat (first | exact Below.refl _ _ | with_reducible assumption | (refine bl_alloc ?_ (Nat.le_refl _) _) | (refine bl_set ?_ (by dsimp only; omega) _) | (refine Below.drew ?_) | (refine bl_drewN ?_ _) | (refine bl_call ?_ (Nat.le_refl _) (by assumption)))⟩
  · clear hA
    go_enter Try.func27, Try.ntmps27
    go_wp2
    refine bodyPost_ret (by simp [results, Try.results27, go_sem]; rfl) rfl ⟨.par (many % 5 + 1).toNat, 3, _, _, rfl, ⟨rfl, rfl, by omega, by omega, by omega⟩, by repeat (first | exact Below.refl _ _ | with_reducible assumption | (refine bl_alloc ?_ (Nat.le_refl _) _) | (refine bl_set ?_ (by dsimp only; omega) _) | (refine Below.drew ?_) | (refine bl_drewN ?_ _) | (refine bl_call ?_ (Nat.le_refl _) (by assumption)))⟩
  · obtain ⟨n, hn, hn2⟩ : ∃ n : Nat, (n : Int) = 2 + many % 3 ∧ n ≤ 4 := ⟨(2 + many % 3).toNat, by omega, by omega⟩
    have HK := Lib.hid hk
    have hn' : 2 + many % 3 = (n : Int) := hn.symm
    have hn3 : 2 ≤ n := by omega
    clear hn
    have hneq := eql_elem
    go_enter Try.func27, Try.ntmps27
    go_upto_region 7 with fail
    rw [hk]
    clear hk
    have hs := Vs.new w [.int .u8 kind, .slice A xs.length c, .int .u8 many] #[.int .u8 kind, .slice A xs.length c, .int .u8 many] 44 rfl
    replace hs := (hs.alloc (.cells #[.int .u8 0, .slice none 0 0, .int .i64 0] 47)).alloc (.cells #[.int .u8 2, .slice none 0 0, .int .i64 0] 47)
    have hr := (Vs.new (w.alloc (.cells #[.int .u8 kind, .slice A xs.length c, .int .u8 many] 44)) [.int .u8 0, .slice none 0 0, .int .i64 0] #[.int .u8 0, .slice none 0 0, .int .i64 0] 47 rfl).alloc (.cells #[.int .u8 2, .slice none 0 0, .int .i64 0] 47)
    have hx := Vs.new ((w.alloc (.cells #[.int .u8 kind, .slice A xs.length c, .int .u8 many] 44)).alloc (.cells #[.int .u8 0, .slice none 0 0, .int .i64 0] 47)) [.int .u8 2, .slice none 0 0, .int .i64 0] #[.int .u8 2, .slice none 0 0, .int .i64 0] 47 rfl
    simp only [World.size_alloc] at hr hx
    have hb00 : Below w.heap.size w (((w.alloc (.cells #[.int .u8 kind, .slice A xs.length c, .int .u8 many] 44)).alloc (.cells #[.int .u8 0, .slice none 0 0, .int .i64 0] 47)).alloc (.cells #[.int .u8 2, .slice none 0 0, .int .i64 0] 47)) := by repeat (first | exact Below.refl _ _ | with_reducible assumption | (refine bl_alloc ?_ (Nat.le_refl _) _) | (refine bl_set ?_ (by dsimp only; omega) _) | (refine Below.drew ?_) | (refine bl_drewN ?_ _) | (refine bl_call ?_ (Nat.le_refl _) (by assumption)))
    have hsz : w.heap.size + 3 ≤ (((w.alloc (.cells #[.int .u8 kind, .slice A xs.length c, .int .u8 many] 44)).alloc (.cells #[.int .u8 0, .slice none 0 0, .int .i64 0] 47)).alloc (.cells #[.int .u8 2, .slice none 0 0, .int .i64 0] 47)).heap.size := by simp only [World.size_alloc]; omega
    generalize ((w.alloc (.cells #[.int .u8 kind, .slice A xs.length c, .int .u8 many] 44)).alloc (.cells #[.int .u8 0, .slice none 0 0, .int .i64 0] 47)).alloc (.cells #[.int .u8 2, .slice none 0 0, .int .i64 0] 47) = w1 at hs hr hx hb00 hsz ⊢
    obtain ⟨s0, s1, s2, s3, s4, s5, s6⟩ := hs.get3
    go_wp2_with fail
    go_loopw [29] (fun i wr => ∃ (k : Nat) (vr : Value) (ks : KL f), k ≤ n ∧ i = .int .i64 k ∧ Vs wr w.heap.size [.int .u8 kind, .slice A xs.length c, .int .u8 many] ∧ Vs wr (w.heap.size + 1) [.int .u8 0, .slice none 0 0, .int .i64 0] ∧
        Vs wr (w.heap.size + 1 + 1) [.int .u8 2, vr, .int .i64 0] ∧ wr.ownsRow (w.heap.size + 3) 41 2 vr k (cellsE (esK ks)) ∧ ks.length = k ∧ Below w.heap.size w wr ∧ w.heap.size + 3 ≤ wr.heap.size) (fun i _ => n - (intOf i).toNat)
    case atStart =>
      exact ⟨0, .slice none 0 0, [], Nat.zero_le _, rfl, hs, hr, hx, World.ownsRow_nil _ _ _ _, rfl, by repeat (first | exact Below.refl _ _ | with_reducible assumption | (refine bl_alloc ?_ (Nat.le_refl _) _) | (refine bl_set ?_ (by dsimp only; omega) _) | (refine Below.drew ?_) | (refine bl_drewN ?_ _) | (refine bl_call ?_ (Nat.le_refl _) (by assumption))), hsz⟩
    case round =>
      clear hs hr hx hb00 hsz s0 s1 s2 s3 s4 s5 s6
      obtain ⟨k, vr, ks, hk, rfl, hs, hr, hx, hown, hkl, hbw, hsz⟩ := hrel
      obtain ⟨s0, s1, s2, s3, s4, s5, s6⟩ := hs.get3
      by_cases hlt : k < n
      · go_upto_if 36 with fail
        go_cut [] (fun wx => ∃ y : Fin (Pm f), V2 wx wr.heap.size (.int .u64 (lo y)) (.int .u64 (hi y)) ∧ Below wr.heap.size wr wx)
        case first =>
          have hc0 := V2.new wr (.int .u64 0) (.int .u64 0) 41
          have hbc : Below wr.heap.size wr (wr.alloc (.cells #[.int .u64 0, .int .u64 0] 41)) := by repeat (first | exact Below.refl _ _ | with_reducible assumption | (refine bl_alloc ?_ (Nat.le_refl _) _) | (refine bl_set ?_ (by dsimp only; omega) _) | (refine Below.drew ?_) | (refine bl_drewN ?_ _) | (refine bl_call ?_ (Nat.le_refl _) (by assumption)))
          by_cases hkx : k < xs.length
          · obtain ⟨b, o, rfl, hB, hrow⟩ := hA (by omega)
            obtain ⟨⟨e0, e1⟩, he⟩ : ∃ e, xs[k]? = some e := ⟨_, List.getElem?_eq_getElem hkx⟩
            obtain ⟨h0, h1, h2, h3⟩ := hok _ (List.mem_of_getElem? he)
            obtain ⟨d0, d1⟩ := (hrow.below hbw hB) k _ he
            dsimp only at h0 h1 h2 h3 d0 d1
            have hbl : b < wr.heap.size := Nat.lt_of_lt_of_le hB hbw.size
            have HO := Lib.hid (fun wz => ref_OfL hf e0 e1 wz h0 h1 h2 h3)
            clear he hrow hA
            go_wp2_with (go_at_call 29; refine (HO.out _).mono ?_; rintro e w6 ⟨rfl, hb6⟩; obtain ⟨c0, c1, c2, c3, c4⟩ := hc0.call hb6)
            go_meet
            exact ⟨_, V2.set ⟨c0, c1, c2, c3, c4⟩ _ _, by repeat (first | exact Below.refl _ _ | with_reducible assumption | (refine bl_alloc ?_ (Nat.le_refl _) _) | (refine bl_set ?_ (by dsimp only; omega) _) | (refine Below.drew ?_) | (refine bl_drewN ?_ _) | (refine bl_call ?_ (Nat.le_refl _) (by assumption)))⟩
          · go_wp2_with fail
            go_meet
            exact ⟨0, by rw [lo_zero, hi_zero]; exact hc0, by repeat (first | exact Below.refl _ _ | with_reducible assumption | (refine bl_alloc ?_ (Nat.le_refl _) _) | (refine bl_set ?_ (by dsimp only; omega) _) | (refine Below.drew ?_) | (refine bl_drewN ?_ _) | (refine bl_call ?_ (Nat.le_refl _) (by assumption)))⟩
        case rest =>
          obtain ⟨y, hy, hb6⟩ := hcut
          obtain ⟨c0, c1, c2, c3, c4⟩ := hy
          obtain ⟨x0, x1, x2, x3, x4, x5, x6⟩ := (hx.call hb6).get3
          have hown6 := own_call hown hb6
          have hsz6 : w.heap.size + 3 ≤ wc.heap.size := Nat.le_trans hsz hb6.size
          have hx6 := hx.call hb6
          have hs6 := hs.call hb6
          have hr6 := hr.call hb6
          have hbw6 : Below w.heap.size w wc := bl_call hbw (Nat.le_refl _) hb6
          clear s0 s1 s2 s3 s4 s5 s6
          have HR1 := Lib.hid (show 0 < 1 → ∃ b o, (some ⟨wc.heap.size, 0, none⟩ : Option Addr) = some ⟨b, o, none⟩ ∧ RowE (wc.alloc (.cells #[.int .u64 (lo y), .int .u64 (hi y)] 41)) b o [eK y] from fun _ => ⟨_, _, rfl, (BlkE.new wc [eK y] _ rfl).rowE⟩)
          have HOW := Lib.hid (hown6.alloc (.cells #[.int .u64 (lo y), .int .u64 (hi y)] 41))
          have hk1 : k + 1 ≤ 1099511627776 := by omega
          have hzz : w.heap.size + 3 ≤ (wc.alloc (.cells #[.int .u64 (lo y), .int .u64 (hi y)] 41)).heap.size := by rw [World.size_alloc]; omega
          have hxA := hx6.alloc (.cells #[.int .u64 (lo y), .int .u64 (hi y)] 41)
          have hlt3 : w.heap.size + 1 + 1 < w.heap.size + 3 := by omega
          go_wp2_with (at_builtin; (refine wpList_append_E rfl (.tmp 45) (.tmp 47) rfl (w.heap.size + 3) _ k (esK ks) rfl HOW.out (some ⟨wc.heap.size, 0, none⟩) 1 1 [eK y] rfl rfl HR1.out hk1 hzz ?_; intro v2 w2 hown2 hg2 hat2; have hb2 : Below (w.heap.size + 3) (wc.alloc (.cells #[.int .u64 (lo y), .int .u64 (hi y)] 41)) w2 := (Below.refl _ _).grown hg2 hzz (fun q hq => (HOW.out.lt q hq).1); have hx2 := hxA.belowB hb2 hlt3; obtain ⟨x0, x1, x2, x3, x4, x5, x6⟩ := hx2.get3; obtain ⟨g2, cap2, hv2⟩ := own_slice hown2; rw [hv2]))
          have hs2 := (hs6.alloc (.cells #[.int .u64 (lo y), .int .u64 (hi y)] 41)).belowB hb2 (by omega)
          have hr2 := (hr6.alloc (.cells #[.int .u64 (lo y), .int .u64 (hi y)] 41)).belowB hb2 (by omega)
          have hbw2 : Below w.heap.size w w2 := (hbw6.alloc (Nat.le_trans (by omega) hsz6) (.cells #[.int .u64 (lo y), .int .u64 (hi y)] 41)).trans (hb2.mono (by omega))
          have hz2 := hb2.size
          rw [World.size_alloc] at hz2
          go_roundw
          case rel =>
            rw [hv2] at hown2
            refine ⟨k + 1, _, ks ++ [y], by omega, by go_num, hs2.far (by dsimp only; omega) _, hr2.far (by dsimp only; omega) _, hx2.put 1 (by simp) _, ?_, by simp [hkl], by repeat (first | exact Below.refl _ _ | with_reducible assumption | (refine bl_alloc ?_ (Nat.le_refl _) _) | (refine bl_set ?_ (by dsimp only; omega) _) | (refine Below.drew ?_) | (refine bl_drewN ?_ _) | (refine bl_call ?_ (Nat.le_refl _) (by assumption))), ?_⟩
            · rw [esK_append]
              exact ownsRow_setCell_below hown2 (by dsimp only; omega) _
            · have : (w2.setCell ⟨w.heap.size + 1 + 1, 1, none⟩ (.slice (some ⟨g2, 0, none⟩) (k + 1) cap2)).heap.size = w2.heap.size := by simp [World.setCell]
              omega
          case measure => simp [intOf]; omega
      · obtain rfl : k = n := by omega
        obtain ⟨m, rfl⟩ : ∃ m, k = m + 1 := ⟨k - 1, by omega⟩
        obtain ⟨g, cap, hvr⟩ := own_slice hown
        rw [hvr] at hown hx
        have hg3 : w.heap.size + 3 ≤ g := (hown.lt g rfl).1
        have hgl : g < wr.heap.size := (hown.lt g rfl).2
        obtain ⟨y, hy⟩ : ∃ e, ks[m]? = some e := ⟨_, List.getElem?_eq_getElem (by omega)⟩
        obtain ⟨e0, e1⟩ := cellsE_at (esK ks) m _ (esK_at hy)
        have c0 := (hown.cellAt (m * 2) (by omega)).trans e0
        have c1 := (hown.cellAt (m * 2 + 1) (by omega)).trans e1
        have f0 := hown.frozenAt (m * 2)
        have f1 := hown.frozenAt (m * 2 + 1)
        have HY := Lib.hid hy
        have HKL := Lib.hid hkl
        clear hvr e0 e1 hy hkl s0 s1 s2 s3 s4 s5 s6 hs hA
        obtain ⟨x0, x1, x2, x3, x4, x5, x6⟩ := hx.get3
        obtain ⟨r0, r1, r2, r3, r4, r5, r6⟩ := hr.get3
        have hmm : (m : Int) + 1 - 1 = (m : Int) := by omega
        by_cases hy0 : y = 0
        · subst hy0
          rw [show (eK (0 : Fin (Pm f))).1 = 0 from lo_zero] at c0
          rw [show (eK (0 : Fin (Pm f))).2 = 0 from hi_zero] at c1
          go_wp2_with fail
          obtain ⟨hown1, _⟩ := hown.stored (m * 2) (.int .u64 1)
          obtain ⟨hown2, _⟩ := hown1.stored (m * 2 + 1) (.int .u64 0)
          rw [cellsE_set, show (esK ks).set m (1, 0) = esK (ks.set m 1) by unfold esK; rw [List.map_set, eK_one]] at hown2
          have hown3 := ownsRow_setCell_below (ownsRow_setCell_below (ownsRow_setCell_below hown2 (a := ⟨w.heap.size + 1, 0, none⟩) (by dsimp only; omega) (.int .u8 2)) (a := ⟨w.heap.size + 1, 1, none⟩) (by dsimp only; omega) (.slice (some ⟨g, 0, none⟩) (m + 1) cap)) (a := ⟨w.heap.size + 1, 2, none⟩) (by dsimp only; omega) (.int .i64 0)
          have hr3 := Vs.set3 ((hr.far (p := ⟨g, m * 2, none⟩) (by dsimp only; omega) (.int .u64 1)).far (p := ⟨g, m * 2 + 1, none⟩) (by dsimp only; omega) (.int .u64 0)) (.int .u8 2) (.slice (some ⟨g, 0, none⟩) (m + 1) cap) (.int .i64 0)
          have hl2 : (ks.set m 1).length = m + 1 := by rw [List.length_set]; exact HKL.out
          refine bodyPost_ret (results_gadget (b := w.heap.size + 1) hr3 rfl rfl) rfl ⟨.eval (ks.set m 1), 2, _, 0, rfl, ⟨rfl, rfl, ?_, ⟨m, 1, hl2, ?_, k_one_ne, by omega, by omega⟩⟩, by repeat (first | exact Below.refl _ _ | with_reducible assumption | (refine bl_alloc ?_ (Nat.le_refl _) _) | (refine bl_set ?_ (by dsimp only; omega) _) | (refine Below.drew ?_) | (refine bl_drewN ?_ _) | (refine bl_call ?_ (Nat.le_refl _) (by assumption)))⟩
          · have h := SlE.of_own (by rw [esK_length, hl2]; exact hown3) (esK_ok (ks.set m 1))
            exact h.toK
          · rw [List.getElem?_set_self (by have := HKL.out; omega)]
        · have hd : (lo y == 0 && hi y == 0) = false := by rw [lohi_zero, decide_eq_false hy0]
          have c0' : wr.cell? ⟨g, m * 2, none⟩ = some (.int .u64 (lo y)) := c0
          have c1' : wr.cell? ⟨g, m * 2 + 1, none⟩ = some (.int .u64 (hi y)) := c1
          clear c0 c1
          go_wp2_with fail
          have hown3 := ownsRow_setCell_below (ownsRow_setCell_below (ownsRow_setCell_below hown (a := ⟨w.heap.size + 1, 0, none⟩) (by dsimp only; omega) (.int .u8 2)) (a := ⟨w.heap.size + 1, 1, none⟩) (by dsimp only; omega) (.slice (some ⟨g, 0, none⟩) (m + 1) cap)) (a := ⟨w.heap.size + 1, 2, none⟩) (by dsimp only; omega) (.int .i64 0)
          have hr3 := Vs.set3 hr (.int .u8 2) (.slice (some ⟨g, 0, none⟩) (m + 1) cap) (.int .i64 0)
          refine bodyPost_ret (results_gadget (b := w.heap.size + 1) hr3 rfl rfl) rfl ⟨.eval ks, 2, _, 0, rfl, ⟨rfl, rfl, ?_, ⟨m, y, HKL.out, HY.out, hy0, by omega, by omega⟩⟩, by repeat (first | exact Below.refl _ _ | with_reducible assumption | (refine bl_alloc ?_ (Nat.le_refl _) _) | (refine bl_set ?_ (by dsimp only; omega) _) | (refine Below.drew ?_) | (refine bl_drewN ?_ _) | (refine bl_call ?_ (Nat.le_refl _) (by assumption)))⟩
          have h := SlE.of_own (by rw [esK_length, HKL.out]; exact hown3) (esK_ok ks)
          exact h.toK

end

end Go.Proofs.Ytiphahbeedeebaa

namespace Go.Proofs.Ytiphahbeedeebaa
open Go.RowKit Fm
set_option linter.unusedVariables false
set_option maxRecDepth 100000

/-- a number comes back -/
def RetI (n : Nat) (w : World) (e : Ending) (w' : World) : Prop := e = .returned (.int .i64 (n : Int)) ∧ Below w.heap.size w w'

theorem val_count (f : Nat) : CK.count.val f = .agg #[.int .u8 1, .int .u8 f, .int .i64 0, .int .i64 0, .int .i64 0, .int .i64 0] := rfl
theorem val_sum (f b : Nat) : (CK.sum b).val f = .agg #[.int .u8 2, .int .u8 f, .int .i64 b, .int .i64 0, .int .i64 0, .int .i64 0] := rfl
theorem val_vec (f b l c : Nat) : (CK.vec b l c).val f = .agg #[.int .u8 3, .int .u8 f, .int .i64 b, .int .i64 l, .int .i64 0, .int .i64 c] := rfl
theorem val_hist (f l c : Nat) : (CK.hist l c).val f = .agg #[.int .u8 4, .int .u8 f, .int .i64 0, .int .i64 l, .int .i64 0, .int .i64 c] := rfl
theorem val_multi (f l m c : Nat) : (CK.multi l m c).val f = .agg #[.int .u8 5, .int .u8 f, .int .i64 0, .int .i64 l, .int .i64 m, .int .i64 c] := rfl

theorem circuit_within (n most : Int) (u : Bool) (w : World) : Calls Try.prog 108 #[.int .i64 n, .int .i64 most, .bool u] w fun e w' => e = .returned (.bool (usedB n most u)) ∧ w = w' := by
  cases u
  · rw [usedB_no]
    go_enter Try.func108, Try.ntmps108
    go_wp2
    go_ret
    exact ⟨rfl, rfl⟩
  · rw [usedB_yes]
    by_cases h1 : 1 ≤ n
    · have hd : decide (1 ≤ n) = true := decide_eq_true h1
      rw [hd, Bool.true_and]
      go_enter Try.func108, Try.ntmps108
      go_wp2
      go_ret
      exact ⟨rfl, rfl⟩
    · have hd : decide (1 ≤ n) = false := decide_eq_false h1
      rw [hd, Bool.false_and]
      go_enter Try.func108, Try.ntmps108
      go_wp2
      go_ret
      exact ⟨rfl, rfl⟩

theorem circuit_weightBits (k f b l c : Int) (m : Nat) (h1 : m ≤ 64) (w : World) :
    Calls Try.prog 98 #[.agg #[.int .u8 k, .int .u8 f, .int .i64 b, .int .i64 l, .int .i64 m, .int .i64 c]] w (RetI (Lib.bitLen m) w) := by
  have HL : Hid (∀ wz, Calls Try.prog 123 #[.int .u64 (m : Int)] wz fun e w' => e = .returned (.int .i64 (Lib.bitLen m)) ∧ w' = wz) := by
    intro wz
    have h := bits_Len (m : Int) wz (by omega) (by omega)
    rwa [Int.toNat_natCast] at h
  have hmx : max (m : Int) 0 = (m : Int) := by omega
  go_enter Try.func98, Try.ntmps98
  go_wp2_with (go_at_call 123; refine (HL.out _).mono ?_; rintro e w2 ⟨rfl, rfl⟩)
  go_ret
  exact ⟨rfl, by repeat (first | exact Below.refl _ _ | with_reducible assumption | (refine bl_alloc ?_ (Nat.le_refl _) _) | (refine bl_set ?_ (by dsimp only; omega) _) | (refine Below.drew ?_) | (refine bl_drewN ?_ _) | (refine bl_call ?_ (Nat.le_refl _) (by assumption)))⟩

set_option maxHeartbeats 1000000 in
theorem circuit_In (f : Nat) (y : CK) (hy : y.ok) (w : World) : Calls Try.prog 45 #[y.val f] w (RetI y.nin w) := by
  cases y with
  | count =>
    rw [val_count]
    go_enter Try.func45, Try.ntmps45
    go_wp2
    go_ret
    exact ⟨rfl, by repeat (first | exact Below.refl _ _ | with_reducible assumption | (refine bl_alloc ?_ (Nat.le_refl _) _) | (refine bl_set ?_ (by dsimp only; omega) _) | (refine Below.drew ?_) | (refine bl_drewN ?_ _) | (refine bl_call ?_ (Nat.le_refl _) (by assumption)))⟩
  | sum b =>
    rw [val_sum]
    go_enter Try.func45, Try.ntmps45
    go_wp2
    go_ret
    exact ⟨rfl, by repeat (first | exact Below.refl _ _ | with_reducible assumption | (refine bl_alloc ?_ (Nat.le_refl _) _) | (refine bl_set ?_ (by dsimp only; omega) _) | (refine Below.drew ?_) | (refine bl_drewN ?_ _) | (refine bl_call ?_ (Nat.le_refl _) (by assumption)))⟩
  | vec b l c =>
    rw [val_vec]
    have hle := CK.nin_le hy
    rw [show (CK.vec b l c).nin = l * b from rfl] at hle ⊢
    have hmul : (l : Int) * (b : Int) = ((l * b : Nat) : Int) := (Int.natCast_mul l b).symm
    generalize l * b = n at *
    clear hy
    go_enter Try.func45, Try.ntmps45
    go_wp2
    go_ret
    refine ⟨ret_int ?_, by repeat (first | exact Below.refl _ _ | with_reducible assumption | (refine bl_alloc ?_ (Nat.le_refl _) _) | (refine bl_set ?_ (by dsimp only; omega) _) | (refine Below.drew ?_) | (refine bl_drewN ?_ _) | (refine bl_call ?_ (Nat.le_refl _) (by assumption)))⟩
    first
      | rfl
      | omega
      | (rw [hmul]; exact IntWalk.i64_in _ (by omega))
  | hist l c =>
    rw [val_hist]
    go_enter Try.func45, Try.ntmps45
    go_wp2
    go_ret
    exact ⟨rfl, by repeat (first | exact Below.refl _ _ | with_reducible assumption | (refine bl_alloc ?_ (Nat.le_refl _) _) | (refine bl_set ?_ (by dsimp only; omega) _) | (refine Below.drew ?_) | (refine bl_drewN ?_ _) | (refine bl_call ?_ (Nat.le_refl _) (by assumption)))⟩
  | multi l m c =>
    rw [val_multi]
    obtain ⟨⟨hl1, hl2⟩, ⟨hm1, hm2⟩, hc⟩ := hy
    have HW := Lib.hid (fun wz => circuit_weightBits 5 f 0 l c m (by omega) wz)
    have hb7 := (bitLen_small m (by omega)).1
    rw [show (CK.multi l m c).nin = l + Lib.bitLen m from rfl]
    generalize Lib.bitLen m = q at *
    have hw1 : IntKind.i64.wrap ((l : Int) + (q : Int)) = (l : Int) + (q : Int) := IntWalk.i64_in _ (by omega)
    have hb00 : Below w.heap.size w w := Below.refl _ _
    go_enter Try.func45, Try.ntmps45
    go_upto_region 11 with fail
    have hx := Vs.new w [.int .u8 5, .int .u8 f, .int .i64 0, .int .i64 l, .int .i64 m, .int .i64 c] #[.int .u8 5, .int .u8 f, .int .i64 0, .int .i64 l, .int .i64 m, .int .i64 c] 60 rfl
    have hbA : Below w.heap.size w (w.alloc (.cells #[.int .u8 5, .int .u8 f, .int .i64 0, .int .i64 l, .int .i64 m, .int .i64 c] 60)) := by repeat (first | exact Below.refl _ _ | with_reducible assumption | (refine bl_alloc ?_ (Nat.le_refl _) _))
    replace hb00 := bl_call hb00 (Nat.le_refl _) hbA
    clear hbA
    generalize w.alloc (.cells #[.int .u8 5, .int .u8 f, .int .i64 0, .int .i64 l, .int .i64 m, .int .i64 c] 60) = w1 at hb00 hx ⊢
    obtain ⟨⟨x0, x1, x2, x3, x4, x5⟩, ⟨x6, x7, x8, x9, x10, x11⟩, x12⟩ := hx.get6
    refine region_B (n := 5) (m := 6) (f := 5) (by kernel_rfl) (by kernel_rfl) rfl ?_
    refine WpH.takeB (i := 0) (v := ?_) rfl (by kernel_rfl) (fun _ _ _ h => h) (.val rfl (fun wz hwz => ?_)) ?_
    rotate_left
    · go_simp; try (with_reducible rfl)
    (simp only [Act.put]); (try simp only [List.setIfInBounds_toArray]); (try simp only [List.set_cons_succ]); (try simp only [List.set_cons_zero])
    refine WpH.takeB (i := 1) (v := ?_) rfl (by kernel_rfl) (fun _ _ _ h => h) (.val rfl (fun wz hwz => ?_)) ?_
    rotate_left
    · (obtain ⟨hcz, hfz⟩ := bcell hwz; go_simp; try (with_reducible rfl))
    (simp only [Act.put]); (try simp only [List.setIfInBounds_toArray]); (try simp only [List.set_cons_succ]); (try simp only [List.set_cons_zero])
    refine WpH.takeB (i := 2) (v := ?_) rfl (by kernel_rfl) (fun _ _ _ h => h) (.val rfl (fun wz hwz => ?_)) ?_
    rotate_left
    · (obtain ⟨hcz, hfz⟩ := bcell hwz; go_simp; try (with_reducible rfl))
    (simp only [Act.put]); (try simp only [List.setIfInBounds_toArray]); (try simp only [List.set_cons_succ]); (try simp only [List.set_cons_zero])
    refine WpH.takeB (i := 3) rfl (by kernel_rfl) (fun _ _ _ h => h) (.call rfl (fun wz hwz => HW.out wz) (fun wz hwz => ?_)) ?_
    · go_simp; try (with_reducible rfl)
    (simp only [Act.put]); (try simp only [List.setIfInBounds_toArray]); (try simp only [List.set_cons_succ]); (try simp only [List.set_cons_zero])
    refine WpH.takeB (i := 4) (v := ?_) rfl (by kernel_rfl) (fun _ _ _ h => h) (.val rfl (fun wz hwz => ?_)) ?_
    rotate_left
    · go_simp; try (with_reducible rfl)
    (simp only [Act.put]); (try simp only [List.setIfInBounds_toArray]); (try simp only [List.set_cons_succ]); (try simp only [List.set_cons_zero])
    refine WpH.doneB (by kernel_rfl) (fun w2 hw2 => ?_)
    (try simp only [List.drop_succ_cons]); (try simp only [List.drop_zero]); (try simp only [Nat.reduceSub]); (try simp only [List.take_succ_cons]); (try simp only [List.take_zero])
    replace hb00 := bl_call hb00 (Nat.le_refl _) hw2
    replace hx := hx.call hw2
    go_wp2_with fail
    go_ret
    exact ⟨ret_int (by omega), by repeat (first | exact Below.refl _ _ | with_reducible assumption | (refine bl_alloc ?_ (Nat.le_refl _) _) | (refine bl_set ?_ (by dsimp only; omega) _) | (refine Below.drew ?_) | (refine bl_drewN ?_ _) | (refine bl_call ?_ (Nat.le_refl _) (by assumption)))⟩

set_option maxHeartbeats 1000000 in
theorem circuit_Out (f : Nat) (y : CK) (hy : y.ok) (w : World) : Calls Try.prog 43 #[y.val f] w (RetI y.nout w) := by
  cases y with
  | count =>
    rw [val_count]
    go_enter Try.func43, Try.ntmps43
    go_wp2
    go_ret
    exact ⟨rfl, by repeat (first | exact Below.refl _ _ | with_reducible assumption | (refine bl_alloc ?_ (Nat.le_refl _) _) | (refine bl_set ?_ (by dsimp only; omega) _) | (refine Below.drew ?_) | (refine bl_drewN ?_ _) | (refine bl_call ?_ (Nat.le_refl _) (by assumption)))⟩
  | sum b =>
    rw [val_sum]
    go_enter Try.func43, Try.ntmps43
    go_wp2
    go_ret
    exact ⟨rfl, by repeat (first | exact Below.refl _ _ | with_reducible assumption | (refine bl_alloc ?_ (Nat.le_refl _) _) | (refine bl_set ?_ (by dsimp only; omega) _) | (refine Below.drew ?_) | (refine bl_drewN ?_ _) | (refine bl_call ?_ (Nat.le_refl _) (by assumption)))⟩
  | vec b l c =>
    rw [val_vec]
    go_enter Try.func43, Try.ntmps43
    go_wp2
    go_ret
    exact ⟨rfl, by repeat (first | exact Below.refl _ _ | with_reducible assumption | (refine bl_alloc ?_ (Nat.le_refl _) _) | (refine bl_set ?_ (by dsimp only; omega) _) | (refine Below.drew ?_) | (refine bl_drewN ?_ _) | (refine bl_call ?_ (Nat.le_refl _) (by assumption)))⟩
  | hist l c =>
    rw [val_hist]
    go_enter Try.func43, Try.ntmps43
    go_wp2
    go_ret
    exact ⟨rfl, by repeat (first | exact Below.refl _ _ | with_reducible assumption | (refine bl_alloc ?_ (Nat.le_refl _) _) | (refine bl_set ?_ (by dsimp only; omega) _) | (refine Below.drew ?_) | (refine bl_drewN ?_ _) | (refine bl_call ?_ (Nat.le_refl _) (by assumption)))⟩
  | multi l m c =>
    rw [val_multi]
    go_enter Try.func43, Try.ntmps43
    go_wp2
    go_ret
    exact ⟨rfl, by repeat (first | exact Below.refl _ _ | with_reducible assumption | (refine bl_alloc ?_ (Nat.le_refl _) _) | (refine bl_set ?_ (by dsimp only; omega) _) | (refine Below.drew ?_) | (refine bl_drewN ?_ _) | (refine bl_call ?_ (Nat.le_refl _) (by assumption)))⟩

set_option maxHeartbeats 1000000 in
theorem circuit_Calls_chunk (k f b l m : Int) (c n : Nat) (hk : k = 3 ∨ k = 4 ∨ k = 5) (hc1 : 1 ≤ c) (hc2 : c ≤ 16) (hn : n ≤ 2048) (w : World)
    (hI : ∀ wz, Calls Try.prog 45 #[.agg #[.int .u8 k, .int .u8 f, .int .i64 b, .int .i64 l, .int .i64 m, .int .i64 c]] wz (RetI n wz)) :
    Calls Try.prog 63 #[.agg #[.int .u8 k, .int .u8 f, .int .i64 b, .int .i64 l, .int .i64 m, .int .i64 c]] w (RetI ((n + c - 1) / c) w) := by
  have HI := Lib.hid hI
  clear hI
  have hc0 : ((c : Int) == 0) = false := by simp; omega
  have hc9 : ¬ (c = 0) := by omega
  have hd : decide ((0 : Int) < (c : Int)) = true := decide_eq_true (by omega)
  have hw1 : IntKind.i64.wrap ((n : Int) + (c : Int)) = (n : Int) + (c : Int) := IntWalk.i64_in _ (by omega)
  have hw2 : IntKind.i64.wrap ((n : Int) + (c : Int) - 1) = (n : Int) + (c : Int) - 1 := IntWalk.i64_in _ (by omega)
  have hq : ((n : Int) + (c : Int) - 1).tdiv (c : Int) = (((n + c - 1) / c : Nat) : Int) := by
    rw [show (n : Int) + (c : Int) - 1 = ((n + c - 1 : Nat) : Int) by omega]
    rw [Int.tdiv_eq_ediv_of_nonneg (by omega)]
    rfl
  have hq2 : ((n + c - 1) / c : Nat) ≤ 2048 := Nat.le_trans (ceil_le hc1) hn
  generalize (n + c - 1) / c = q at *
  have hw3 : IntKind.i64.wrap (q : Int) = (q : Int) := IntWalk.i64_in _ (by omega)
  have hb00 : Below w.heap.size w w := Below.refl _ _
  rcases hk with rfl | rfl | rfl
  all_goals
    go_enter Try.func63, Try.ntmps63
    go_upto_region 10 with fail
  · skip
    have hx := Vs.new w [.int .u8 3, .int .u8 f, .int .i64 b, .int .i64 l, .int .i64 m, .int .i64 c] #[.int .u8 3, .int .u8 f, .int .i64 b, .int .i64 l, .int .i64 m, .int .i64 c] 60 rfl
    have hbA : Below w.heap.size w (w.alloc (.cells #[.int .u8 3, .int .u8 f, .int .i64 b, .int .i64 l, .int .i64 m, .int .i64 c] 60)) := by repeat (first | exact Below.refl _ _ | with_reducible assumption | (refine bl_alloc ?_ (Nat.le_refl _) _))
    replace hb00 := bl_call hb00 (Nat.le_refl _) hbA
    clear hbA
    generalize w.alloc (.cells #[.int .u8 3, .int .u8 f, .int .i64 b, .int .i64 l, .int .i64 m, .int .i64 c] 60) = w1 at hb00 hx ⊢
    obtain ⟨⟨x0, x1, x2, x3, x4, x5⟩, ⟨x6, x7, x8, x9, x10, x11⟩, x12⟩ := hx.get6
    refine region_B (n := 9) (m := 10) (f := 9) (by kernel_rfl) (by kernel_rfl) rfl ?_
    refine WpH.takeB (i := 0) (v := ?_) rfl (by kernel_rfl) (fun _ _ _ h => h) (.val rfl (fun wz hwz => ?_)) ?_
    rotate_left
    · (obtain ⟨hcz, hfz⟩ := bcell hwz; go_simp; try (with_reducible rfl))
    (simp only [Act.put]); (try simp only [List.setIfInBounds_toArray]); (try simp only [List.set_cons_succ]); (try simp only [List.set_cons_zero])
    refine WpH.takeB (i := 1) rfl (by kernel_rfl) (fun _ _ _ h => h) (.call rfl (fun wz hwz => HI.out wz) (fun wz hwz => ?_)) ?_
    · go_simp; try (with_reducible rfl)
    (simp only [Act.put]); (try simp only [List.setIfInBounds_toArray]); (try simp only [List.set_cons_succ]); (try simp only [List.set_cons_zero])
    refine WpH.takeB (i := 2) (v := ?_) rfl (by kernel_rfl) (fun _ _ _ h => h) (.val rfl (fun wz hwz => ?_)) ?_
    rotate_left
    · go_simp; try (with_reducible rfl)
    (simp only [Act.put]); (try simp only [List.setIfInBounds_toArray]); (try simp only [List.set_cons_succ]); (try simp only [List.set_cons_zero])
    refine WpH.takeB (i := 3) (v := ?_) rfl (by kernel_rfl) (fun _ _ _ h => h) (.val rfl (fun wz hwz => ?_)) ?_
    rotate_left
    · (obtain ⟨hcz, hfz⟩ := bcell hwz; go_simp; try (with_reducible rfl))
    (simp only [Act.put]); (try simp only [List.setIfInBounds_toArray]); (try simp only [List.set_cons_succ]); (try simp only [List.set_cons_zero])
    refine WpH.takeB (i := 4) (v := ?_) rfl (by kernel_rfl) (fun _ _ _ h => h) (.val rfl (fun wz hwz => ?_)) ?_
    rotate_left
    · go_simp; try (with_reducible rfl)
    (simp only [Act.put]); (try simp only [List.setIfInBounds_toArray]); (try simp only [List.set_cons_succ]); (try simp only [List.set_cons_zero])
    refine WpH.takeB (i := 5) (v := ?_) rfl (by kernel_rfl) (fun _ _ _ h => h) (.val rfl (fun wz hwz => ?_)) ?_
    rotate_left
    · go_simp; try (with_reducible rfl)
    (simp only [Act.put]); (try simp only [List.setIfInBounds_toArray]); (try simp only [List.set_cons_succ]); (try simp only [List.set_cons_zero])
    refine WpH.takeB (i := 6) (v := ?_) rfl (by kernel_rfl) (fun _ _ _ h => h) (.val rfl (fun wz hwz => ?_)) ?_
    rotate_left
    · go_simp; try (with_reducible rfl)
    (simp only [Act.put]); (try simp only [List.setIfInBounds_toArray]); (try simp only [List.set_cons_succ]); (try simp only [List.set_cons_zero])
    refine WpH.takeB (i := 7) (v := ?_) rfl (by kernel_rfl) (fun _ _ _ h => h) (.val rfl (fun wz hwz => ?_)) ?_
    rotate_left
    · (obtain ⟨hcz, hfz⟩ := bcell hwz; go_simp; try (with_reducible rfl))
    (simp only [Act.put]); (try simp only [List.setIfInBounds_toArray]); (try simp only [List.set_cons_succ]); (try simp only [List.set_cons_zero])
    refine WpH.takeB (i := 8) (v := ?_) rfl (by kernel_rfl) (fun _ _ _ h => h) (.val rfl (fun wz hwz => ?_)) ?_
    rotate_left
    · go_simp; try (with_reducible rfl)
    (simp only [Act.put]); (try simp only [List.setIfInBounds_toArray]); (try simp only [List.set_cons_succ]); (try simp only [List.set_cons_zero])
    refine WpH.doneB (by kernel_rfl) (fun w2 hw2 => ?_)
    (try simp only [List.drop_succ_cons]); (try simp only [List.drop_zero]); (try simp only [Nat.reduceSub]); (try simp only [List.take_succ_cons]); (try simp only [List.take_zero])
    replace hb00 := bl_call hb00 (Nat.le_refl _) hw2
    replace hx := hx.call hw2
    go_wp2_with fail
    go_ret
    exact ⟨rfl, by repeat (first | exact Below.refl _ _ | with_reducible assumption | (refine bl_alloc ?_ (Nat.le_refl _) _) | (refine bl_set ?_ (by dsimp only; omega) _) | (refine Below.drew ?_) | (refine bl_drewN ?_ _) | (refine bl_call ?_ (Nat.le_refl _) (by assumption)))⟩
  · skip
    have hx := Vs.new w [.int .u8 4, .int .u8 f, .int .i64 b, .int .i64 l, .int .i64 m, .int .i64 c] #[.int .u8 4, .int .u8 f, .int .i64 b, .int .i64 l, .int .i64 m, .int .i64 c] 60 rfl
    have hbA : Below w.heap.size w (w.alloc (.cells #[.int .u8 4, .int .u8 f, .int .i64 b, .int .i64 l, .int .i64 m, .int .i64 c] 60)) := by repeat (first | exact Below.refl _ _ | with_reducible assumption | (refine bl_alloc ?_ (Nat.le_refl _) _))
    replace hb00 := bl_call hb00 (Nat.le_refl _) hbA
    clear hbA
    generalize w.alloc (.cells #[.int .u8 4, .int .u8 f, .int .i64 b, .int .i64 l, .int .i64 m, .int .i64 c] 60) = w1 at hb00 hx ⊢
    obtain ⟨⟨x0, x1, x2, x3, x4, x5⟩, ⟨x6, x7, x8, x9, x10, x11⟩, x12⟩ := hx.get6
    refine region_B (n := 9) (m := 10) (f := 9) (by kernel_rfl) (by kernel_rfl) rfl ?_
    refine WpH.takeB (i := 0) (v := ?_) rfl (by kernel_rfl) (fun _ _ _ h => h) (.val rfl (fun wz hwz => ?_)) ?_
    rotate_left
    · (obtain ⟨hcz, hfz⟩ := bcell hwz; go_simp; try (with_reducible rfl))
    (simp only [Act.put]); (try simp only [List.setIfInBounds_toArray]); (try simp only [List.set_cons_succ]); (try simp only [List.set_cons_zero])
    refine WpH.takeB (i := 1) rfl (by kernel_rfl) (fun _ _ _ h => h) (.call rfl (fun wz hwz => HI.out wz) (fun wz hwz => ?_)) ?_
    · go_simp; try (with_reducible rfl)
    (simp only [Act.put]); (try simp only [List.setIfInBounds_toArray]); (try simp only [List.set_cons_succ]); (try simp only [List.set_cons_zero])
    refine WpH.takeB (i := 2) (v := ?_) rfl (by kernel_rfl) (fun _ _ _ h => h) (.val rfl (fun wz hwz => ?_)) ?_
    rotate_left
    · go_simp; try (with_reducible rfl)
    (simp only [Act.put]); (try simp only [List.setIfInBounds_toArray]); (try simp only [List.set_cons_succ]); (try simp only [List.set_cons_zero])
    refine WpH.takeB (i := 3) (v := ?_) rfl (by kernel_rfl) (fun _ _ _ h => h) (.val rfl (fun wz hwz => ?_)) ?_
    rotate_left
    · (obtain ⟨hcz, hfz⟩ := bcell hwz; go_simp; try (with_reducible rfl))
    (simp only [Act.put]); (try simp only [List.setIfInBounds_toArray]); (try simp only [List.set_cons_succ]); (try simp only [List.set_cons_zero])
    refine WpH.takeB (i := 4) (v := ?_) rfl (by kernel_rfl) (fun _ _ _ h => h) (.val rfl (fun wz hwz => ?_)) ?_
    rotate_left
    · go_simp; try (with_reducible rfl)
    (simp only [Act.put]); (try simp only [List.setIfInBounds_toArray]); (try simp only [List.set_cons_succ]); (try simp only [List.set_cons_zero])
    refine WpH.takeB (i := 5) (v := ?_) rfl (by kernel_rfl) (fun _ _ _ h => h) (.val rfl (fun wz hwz => ?_)) ?_
    rotate_left
    · go_simp; try (with_reducible rfl)
    (simp only [Act.put]); (try simp only [List.setIfInBounds_toArray]); (try simp only [List.set_cons_succ]); (try simp only [List.set_cons_zero])
    refine WpH.takeB (i := 6) (v := ?_) rfl (by kernel_rfl) (fun _ _ _ h => h) (.val rfl (fun wz hwz => ?_)) ?_
    rotate_left
    · go_simp; try (with_reducible rfl)
    (simp only [Act.put]); (try simp only [List.setIfInBounds_toArray]); (try simp only [List.set_cons_succ]); (try simp only [List.set_cons_zero])
    refine WpH.takeB (i := 7) (v := ?_) rfl (by kernel_rfl) (fun _ _ _ h => h) (.val rfl (fun wz hwz => ?_)) ?_
    rotate_left
    · (obtain ⟨hcz, hfz⟩ := bcell hwz; go_simp; try (with_reducible rfl))
    (simp only [Act.put]); (try simp only [List.setIfInBounds_toArray]); (try simp only [List.set_cons_succ]); (try simp only [List.set_cons_zero])
    refine WpH.takeB (i := 8) (v := ?_) rfl (by kernel_rfl) (fun _ _ _ h => h) (.val rfl (fun wz hwz => ?_)) ?_
    rotate_left
    · go_simp; try (with_reducible rfl)
    (simp only [Act.put]); (try simp only [List.setIfInBounds_toArray]); (try simp only [List.set_cons_succ]); (try simp only [List.set_cons_zero])
    refine WpH.doneB (by kernel_rfl) (fun w2 hw2 => ?_)
    (try simp only [List.drop_succ_cons]); (try simp only [List.drop_zero]); (try simp only [Nat.reduceSub]); (try simp only [List.take_succ_cons]); (try simp only [List.take_zero])
    replace hb00 := bl_call hb00 (Nat.le_refl _) hw2
    replace hx := hx.call hw2
    go_wp2_with fail
    go_ret
    exact ⟨rfl, by repeat (first | exact Below.refl _ _ | with_reducible assumption | (refine bl_alloc ?_ (Nat.le_refl _) _) | (refine bl_set ?_ (by dsimp only; omega) _) | (refine Below.drew ?_) | (refine bl_drewN ?_ _) | (refine bl_call ?_ (Nat.le_refl _) (by assumption)))⟩
  · skip
    have hx := Vs.new w [.int .u8 5, .int .u8 f, .int .i64 b, .int .i64 l, .int .i64 m, .int .i64 c] #[.int .u8 5, .int .u8 f, .int .i64 b, .int .i64 l, .int .i64 m, .int .i64 c] 60 rfl
    have hbA : Below w.heap.size w (w.alloc (.cells #[.int .u8 5, .int .u8 f, .int .i64 b, .int .i64 l, .int .i64 m, .int .i64 c] 60)) := by repeat (first | exact Below.refl _ _ | with_reducible assumption | (refine bl_alloc ?_ (Nat.le_refl _) _))
    replace hb00 := bl_call hb00 (Nat.le_refl _) hbA
    clear hbA
    generalize w.alloc (.cells #[.int .u8 5, .int .u8 f, .int .i64 b, .int .i64 l, .int .i64 m, .int .i64 c] 60) = w1 at hb00 hx ⊢
    obtain ⟨⟨x0, x1, x2, x3, x4, x5⟩, ⟨x6, x7, x8, x9, x10, x11⟩, x12⟩ := hx.get6
    refine region_B (n := 9) (m := 10) (f := 9) (by kernel_rfl) (by kernel_rfl) rfl ?_
    refine WpH.takeB (i := 0) (v := ?_) rfl (by kernel_rfl) (fun _ _ _ h => h) (.val rfl (fun wz hwz => ?_)) ?_
    rotate_left
    · (obtain ⟨hcz, hfz⟩ := bcell hwz; go_simp; try (with_reducible rfl))
    (simp only [Act.put]); (try simp only [List.setIfInBounds_toArray]); (try simp only [List.set_cons_succ]); (try simp only [List.set_cons_zero])
    refine WpH.takeB (i := 1) rfl (by kernel_rfl) (fun _ _ _ h => h) (.call rfl (fun wz hwz => HI.out wz) (fun wz hwz => ?_)) ?_
    · go_simp; try (with_reducible rfl)
    (simp only [Act.put]); (try simp only [List.setIfInBounds_toArray]); (try simp only [List.set_cons_succ]); (try simp only [List.set_cons_zero])
    refine WpH.takeB (i := 2) (v := ?_) rfl (by kernel_rfl) (fun _ _ _ h => h) (.val rfl (fun wz hwz => ?_)) ?_
    rotate_left
    · go_simp; try (with_reducible rfl)
    (simp only [Act.put]); (try simp only [List.setIfInBounds_toArray]); (try simp only [List.set_cons_succ]); (try simp only [List.set_cons_zero])
    refine WpH.takeB (i := 3) (v := ?_) rfl (by kernel_rfl) (fun _ _ _ h => h) (.val rfl (fun wz hwz => ?_)) ?_
    rotate_left
    · (obtain ⟨hcz, hfz⟩ := bcell hwz; go_simp; try (with_reducible rfl))
    (simp only [Act.put]); (try simp only [List.setIfInBounds_toArray]); (try simp only [List.set_cons_succ]); (try simp only [List.set_cons_zero])
    refine WpH.takeB (i := 4) (v := ?_) rfl (by kernel_rfl) (fun _ _ _ h => h) (.val rfl (fun wz hwz => ?_)) ?_
    rotate_left
    · go_simp; try (with_reducible rfl)
    (simp only [Act.put]); (try simp only [List.setIfInBounds_toArray]); (try simp only [List.set_cons_succ]); (try simp only [List.set_cons_zero])
    refine WpH.takeB (i := 5) (v := ?_) rfl (by kernel_rfl) (fun _ _ _ h => h) (.val rfl (fun wz hwz => ?_)) ?_
    rotate_left
    · go_simp; try (with_reducible rfl)
    (simp only [Act.put]); (try simp only [List.setIfInBounds_toArray]); (try simp only [List.set_cons_succ]); (try simp only [List.set_cons_zero])
    refine WpH.takeB (i := 6) (v := ?_) rfl (by kernel_rfl) (fun _ _ _ h => h) (.val rfl (fun wz hwz => ?_)) ?_
    rotate_left
    · go_simp; try (with_reducible rfl)
    (simp only [Act.put]); (try simp only [List.setIfInBounds_toArray]); (try simp only [List.set_cons_succ]); (try simp only [List.set_cons_zero])
    refine WpH.takeB (i := 7) (v := ?_) rfl (by kernel_rfl) (fun _ _ _ h => h) (.val rfl (fun wz hwz => ?_)) ?_
    rotate_left
    · (obtain ⟨hcz, hfz⟩ := bcell hwz; go_simp; try (with_reducible rfl))
    (simp only [Act.put]); (try simp only [List.setIfInBounds_toArray]); (try simp only [List.set_cons_succ]); (try simp only [List.set_cons_zero])
    refine WpH.takeB (i := 8) (v := ?_) rfl (by kernel_rfl) (fun _ _ _ h => h) (.val rfl (fun wz hwz => ?_)) ?_
    rotate_left
    · go_simp; try (with_reducible rfl)
    (simp only [Act.put]); (try simp only [List.setIfInBounds_toArray]); (try simp only [List.set_cons_succ]); (try simp only [List.set_cons_zero])
    refine WpH.doneB (by kernel_rfl) (fun w2 hw2 => ?_)
    (try simp only [List.drop_succ_cons]); (try simp only [List.drop_zero]); (try simp only [Nat.reduceSub]); (try simp only [List.take_succ_cons]); (try simp only [List.take_zero])
    replace hb00 := bl_call hb00 (Nat.le_refl _) hw2
    replace hx := hx.call hw2
    go_wp2_with fail
    go_ret
    exact ⟨rfl, by repeat (first | exact Below.refl _ _ | with_reducible assumption | (refine bl_alloc ?_ (Nat.le_refl _) _) | (refine bl_set ?_ (by dsimp only; omega) _) | (refine Below.drew ?_) | (refine bl_drewN ?_ _) | (refine bl_call ?_ (Nat.le_refl _) (by assumption)))⟩

theorem circuit_Calls (f : Nat) (y : CK) (hy : y.ok) (w : World) : Calls Try.prog 63 #[y.val f] w (RetI y.calls w) := by
  have hI := fun wz => circuit_In f y hy wz
  have hn := CK.nin_le hy
  cases y with
  | count =>
    rw [val_count]
    go_enter Try.func63, Try.ntmps63
    go_wp2
    go_ret
    exact ⟨rfl, by repeat (first | exact Below.refl _ _ | with_reducible assumption | (refine bl_alloc ?_ (Nat.le_refl _) _) | (refine bl_set ?_ (by dsimp only; omega) _) | (refine Below.drew ?_) | (refine bl_drewN ?_ _) | (refine bl_call ?_ (Nat.le_refl _) (by assumption)))⟩
  | sum b =>
    rw [val_sum]
    go_enter Try.func63, Try.ntmps63
    go_wp2
    go_ret
    exact ⟨rfl, by repeat (first | exact Below.refl _ _ | with_reducible assumption | (refine bl_alloc ?_ (Nat.le_refl _) _) | (refine bl_set ?_ (by dsimp only; omega) _) | (refine Below.drew ?_) | (refine bl_drewN ?_ _) | (refine bl_call ?_ (Nat.le_refl _) (by assumption)))⟩
  | vec b l c =>
    rw [val_vec] at hI ⊢
    exact circuit_Calls_chunk 3 f b l 0 c _ (.inl rfl) hy.2.2.1 hy.2.2.2 hn w hI
  | hist l c =>
    rw [val_hist] at hI ⊢
    exact circuit_Calls_chunk 4 f 0 l 0 c _ (.inr (.inl rfl)) hy.2.1 hy.2.2 hn w hI
  | multi l m c =>
    rw [val_multi] at hI ⊢
    exact circuit_Calls_chunk 5 f 0 l m c _ (.inr (.inr rfl)) hy.2.2.1 hy.2.2.2 hn w hI

end Go.Proofs.Ytiphahbeedeebaa

namespace Go.Proofs.Ytiphahbeedeebaa
open Go.RowKit Fm
set_option linter.unusedVariables false
set_option maxRecDepth 100000

theorem rval_count (f : Nat) : CK.count.rval f = .agg #[.int .i64 1, .int .i64 f, .int .i64 0, .int .i64 0, .int .i64 0, .int .i64 0] := rfl
theorem rval_sum (f b : Nat) : (CK.sum b).rval f = .agg #[.int .i64 2, .int .i64 f, .int .i64 b, .int .i64 0, .int .i64 0, .int .i64 0] := rfl
theorem rval_vec (f b l c : Nat) : (CK.vec b l c).rval f = .agg #[.int .i64 3, .int .i64 f, .int .i64 b, .int .i64 l, .int .i64 0, .int .i64 c] := rfl
theorem rval_hist (f l c : Nat) : (CK.hist l c).rval f = .agg #[.int .i64 4, .int .i64 f, .int .i64 0, .int .i64 l, .int .i64 0, .int .i64 c] := rfl
theorem rval_multi (f l m c : Nat) : (CK.multi l m c).rval f = .agg #[.int .i64 5, .int .i64 f, .int .i64 0, .int .i64 l, .int .i64 m, .int .i64 c] := rfl

theorem ref9_used (n most : Int) (u : Bool) (w : World) : Calls Try.prog 104 #[.int .i64 n, .int .i64 most, .bool u] w fun e w' => e = .returned (.bool (usedB n most u)) ∧ w = w' := by
  cases u
  · rw [usedB_no]
    go_enter Try.func104, Try.ntmps104
    go_wp2
    go_ret
    exact ⟨rfl, rfl⟩
  · rw [usedB_yes]
    by_cases h1 : 1 ≤ n
    · have hd : decide (1 ≤ n) = true := decide_eq_true h1
      rw [hd, Bool.true_and]
      go_enter Try.func104, Try.ntmps104
      go_wp2
      go_ret
      exact ⟨rfl, rfl⟩
    · have hd : decide (1 ≤ n) = false := decide_eq_false h1
      rw [hd, Bool.false_and]
      go_enter Try.func104, Try.ntmps104
      go_wp2
      go_ret
      exact ⟨rfl, rfl⟩

theorem bitLen_half : ∀ m : Nat, m ≤ 64 → 0 < m → Lib.bitLen m = Lib.bitLen (m / 2) + 1 := by decide +kernel

set_option maxHeartbeats 1000000 in
theorem ref9_WeightBits (k f b l c : Int) (m : Nat) (h1 : m ≤ 64) (w : World) :
    Calls Try.prog 100 #[.agg #[.int .i64 k, .int .i64 f, .int .i64 b, .int .i64 l, .int .i64 m, .int .i64 c]] w (RetI (Lib.bitLen m) w) := by
  go_enter Try.func100, Try.ntmps100
  go_wp2
  go_loop [3, 4] (fun n q => ∃ (i j : Nat), j ≤ 64 ∧ i ≤ 7 ∧ n = .int .i64 i ∧ q = .int .i64 j ∧ Hid (i + Lib.bitLen j = Lib.bitLen m)) (fun _ q => (intOf q).toNat)
  case atStart => exact ⟨0, m, h1, by omega, rfl, rfl, Nat.zero_add _⟩
  case round =>
    obtain ⟨i, j, hj, hi7, rfl, rfl, hij⟩ := hrel
    have hb := (bitLen_small m h1).1
    by_cases hlt : 0 < j
    · have hh := bitLen_half j hj hlt
      have HH := Lib.hid hh
      have h8 : i + 1 ≤ 7 := by have := hij.out; omega
      clear hh
      go_wp2
      go_round
      case rel => exact ⟨i + 1, j / 2, by omega, h8, by go_num, by go_num, by have h1 := hij.out; have h2 := HH.out; show i + 1 + Lib.bitLen (j / 2) = _; omega⟩
      case measure => simp [intOf]; omega
    · obtain rfl : j = 0 := by omega
      go_wp2
      go_ret
      exact ⟨ret_int (by have h := hij.out; have h0 : Lib.bitLen 0 = 0 := rfl; omega), by repeat (first | exact Below.refl _ _ | with_reducible assumption | (refine bl_alloc ?_ (Nat.le_refl _) _) | (refine bl_set ?_ (by dsimp only; omega) _) | (refine Below.drew ?_) | (refine bl_drewN ?_ _) | (refine bl_call ?_ (Nat.le_refl _) (by assumption)))⟩

/-- what is added to how many are 1 -/
def offN (m : Nat) : Nat := 2 ^ Lib.bitLen m - 1 - m

set_option maxHeartbeats 1000000 in
theorem ref9_Offset (k f b l c : Int) (m : Nat) (h1 : m ≤ 64) (w : World) :
    Calls Try.prog 99 #[.agg #[.int .i64 k, .int .i64 f, .int .i64 b, .int .i64 l, .int .i64 m, .int .i64 c]] w (RetI (offN m) w) := by
  have HW := Lib.hid (fun wz => ref9_WeightBits k f b l c m h1 wz)
  have hs := bitLen_small m h1
  have HO : Hid ((2 ^ Lib.bitLen m : Nat) - 1 - m = offN m) := rfl
  generalize Lib.bitLen m = q at *
  have HS := Lib.hid hs.2.1
  have hq7 := hs.1
  clear hs
  have hb00 : Below w.heap.size w w := Below.refl _ _
  go_enter Try.func99, Try.ntmps99
  go_upto_region 1 with fail
  have hx := Vs.new w [.int .i64 k, .int .i64 f, .int .i64 b, .int .i64 l, .int .i64 m, .int .i64 c] #[.int .i64 k, .int .i64 f, .int .i64 b, .int .i64 l, .int .i64 m, .int .i64 c] 72 rfl
  have hbA : Below w.heap.size w (w.alloc (.cells #[.int .i64 k, .int .i64 f, .int .i64 b, .int .i64 l, .int .i64 m, .int .i64 c] 72)) := by repeat (first | exact Below.refl _ _ | with_reducible assumption | (refine bl_alloc ?_ (Nat.le_refl _) _))
  replace hb00 := bl_call hb00 (Nat.le_refl _) hbA
  clear hbA
  generalize w.alloc (.cells #[.int .i64 k, .int .i64 f, .int .i64 b, .int .i64 l, .int .i64 m, .int .i64 c] 72) = w1 at hb00 hx ⊢
  have hx12 : w.heap.size < w1.heap.size := hx.lt
  go_wp2_with fail
  go_loopw [3, 4] (fun n i wr => ∃ (j p : Nat), j ≤ q ∧ i = .int .i64 j ∧ n = .int .i64 p ∧ Hid (p = 2 ^ j) ∧ p ≤ 128 ∧ Vs wr w.heap.size [.int .i64 k, .int .i64 f, .int .i64 b, .int .i64 l, .int .i64 m, .int .i64 c] ∧ Below w.heap.size w wr) (fun _ i _ => q - (intOf i).toNat)
  case atStart => exact ⟨0, 1, Nat.zero_le _, rfl, rfl, rfl, by omega, hx, hb00⟩
  case round =>
    clear hx hb00 hx12
    obtain ⟨j, p, hj, rfl, rfl, hp, hp128, hx, hb00⟩ := hrel
    obtain ⟨⟨x0, x1, x2, x3, x4, x5⟩, ⟨x6, x7, x8, x9, x10, x11⟩, x12⟩ := hx.get6
    by_cases hlt : j < q
    · have hp2 : p * 2 ≤ 128 := by
        have h1 := hp.out
        have h2 : (2 : Nat) ^ (j + 1) ≤ 2 ^ 7 := Nat.pow_le_pow_right (by omega) (by omega)
        rw [Nat.pow_succ, ← h1] at h2
        omega
      go_wp2_with (first
        | (go_at_call 100; refine (HW.out _).mono ?_; rintro e w2 ⟨rfl, hb2⟩; replace hb00 := bl_call hb00 (Nat.le_refl _) hb2; replace hx := hx.call hb2))
      go_roundw
      case rel => exact ⟨j + 1, p * 2, by omega, by go_num, by go_num, (by rw [hp.out, Nat.pow_succ] : p * 2 = 2 ^ (j + 1)), hp2, hx, hb00⟩
      case measure => simp [intOf]; omega
    · obtain rfl : j = q := by omega
      have hpm : m < p := by rw [hp.out]; exact HS.out
      go_wp2_with (first
        | (go_at_call 100; refine (HW.out _).mono ?_; rintro e w2 ⟨rfl, hb2⟩; replace hb00 := bl_call hb00 (Nat.le_refl _) hb2; replace hx := hx.call hb2; obtain ⟨⟨x0, x1, x2, x3, x4, x5⟩, ⟨x6, x7, x8, x9, x10, x11⟩, x12⟩ := hx.get6))
      go_ret
      exact ⟨ret_int (by have h1 := HO.out; have h2 := hp.out; omega), hb00⟩

set_option maxHeartbeats 1000000 in
theorem ref9_In (f : Nat) (y : CK) (hy : y.ok) (w : World) : Calls Try.prog 61 #[y.rval f] w (RetI y.nin w) := by
  cases y with
  | count =>
    rw [rval_count]
    go_enter Try.func61, Try.ntmps61
    go_wp2
    go_ret
    exact ⟨rfl, by repeat (first | exact Below.refl _ _ | with_reducible assumption | (refine bl_alloc ?_ (Nat.le_refl _) _) | (refine bl_set ?_ (by dsimp only; omega) _) | (refine Below.drew ?_) | (refine bl_drewN ?_ _) | (refine bl_call ?_ (Nat.le_refl _) (by assumption)))⟩
  | sum b =>
    rw [rval_sum]
    go_enter Try.func61, Try.ntmps61
    go_wp2
    go_ret
    exact ⟨rfl, by repeat (first | exact Below.refl _ _ | with_reducible assumption | (refine bl_alloc ?_ (Nat.le_refl _) _) | (refine bl_set ?_ (by dsimp only; omega) _) | (refine Below.drew ?_) | (refine bl_drewN ?_ _) | (refine bl_call ?_ (Nat.le_refl _) (by assumption)))⟩
  | vec b l c =>
    rw [rval_vec]
    have hle := CK.nin_le hy
    rw [show (CK.vec b l c).nin = l * b from rfl] at hle ⊢
    have hmul : (b : Int) * (l : Int) = ((l * b : Nat) : Int) := by rw [Int.natCast_mul, Int.mul_comm]
    generalize l * b = n at *
    clear hy
    go_enter Try.func61, Try.ntmps61
    go_wp2
    go_ret
    refine ⟨ret_int ?_, by repeat (first | exact Below.refl _ _ | with_reducible assumption | (refine bl_alloc ?_ (Nat.le_refl _) _) | (refine bl_set ?_ (by dsimp only; omega) _) | (refine Below.drew ?_) | (refine bl_drewN ?_ _) | (refine bl_call ?_ (Nat.le_refl _) (by assumption)))⟩
    first
      | rfl
      | omega
      | (rw [hmul]; exact IntWalk.i64_in _ (by omega))
  | hist l c =>
    rw [rval_hist]
    go_enter Try.func61, Try.ntmps61
    go_wp2
    go_ret
    exact ⟨rfl, by repeat (first | exact Below.refl _ _ | with_reducible assumption | (refine bl_alloc ?_ (Nat.le_refl _) _) | (refine bl_set ?_ (by dsimp only; omega) _) | (refine Below.drew ?_) | (refine bl_drewN ?_ _) | (refine bl_call ?_ (Nat.le_refl _) (by assumption)))⟩
  | multi l m c =>
    rw [rval_multi]
    obtain ⟨⟨hl1, hl2⟩, ⟨hm1, hm2⟩, hc⟩ := hy
    have HW := Lib.hid (fun wz => ref9_WeightBits 5 f 0 l c m (by omega) wz)
    have hb7 := (bitLen_small m (by omega)).1
    rw [show (CK.multi l m c).nin = l + Lib.bitLen m from rfl]
    generalize Lib.bitLen m = q at *
    have hw1 : IntKind.i64.wrap ((l : Int) + (q : Int)) = (l : Int) + (q : Int) := IntWalk.i64_in _ (by omega)
    have hb00 : Below w.heap.size w w := Below.refl _ _
    go_enter Try.func61, Try.ntmps61
    go_upto_region 10 with fail
    have hx := Vs.new w [.int .i64 5, .int .i64 f, .int .i64 0, .int .i64 l, .int .i64 m, .int .i64 c] #[.int .i64 5, .int .i64 f, .int .i64 0, .int .i64 l, .int .i64 m, .int .i64 c] 72 rfl
    have hbA : Below w.heap.size w (w.alloc (.cells #[.int .i64 5, .int .i64 f, .int .i64 0, .int .i64 l, .int .i64 m, .int .i64 c] 72)) := by repeat (first | exact Below.refl _ _ | with_reducible assumption | (refine bl_alloc ?_ (Nat.le_refl _) _))
    replace hb00 := bl_call hb00 (Nat.le_refl _) hbA
    clear hbA
    generalize w.alloc (.cells #[.int .i64 5, .int .i64 f, .int .i64 0, .int .i64 l, .int .i64 m, .int .i64 c] 72) = w1 at hb00 hx ⊢
    obtain ⟨⟨x0, x1, x2, x3, x4, x5⟩, ⟨x6, x7, x8, x9, x10, x11⟩, x12⟩ := hx.get6
    refine region_B (n := 5) (m := 6) (f := 5) (by kernel_rfl) (by kernel_rfl) rfl ?_
    refine WpH.takeB (i := 0) (v := ?_) rfl (by kernel_rfl) (fun _ _ _ h => h) (.val rfl (fun wz hwz => ?_)) ?_
    rotate_left
    · go_simp; try (with_reducible rfl)
    (simp only [Act.put]); (try simp only [List.setIfInBounds_toArray]); (try simp only [List.set_cons_succ]); (try simp only [List.set_cons_zero])
    refine WpH.takeB (i := 1) (v := ?_) rfl (by kernel_rfl) (fun _ _ _ h => h) (.val rfl (fun wz hwz => ?_)) ?_
    rotate_left
    · (obtain ⟨hcz, hfz⟩ := bcell hwz; go_simp; try (with_reducible rfl))
    (simp only [Act.put]); (try simp only [List.setIfInBounds_toArray]); (try simp only [List.set_cons_succ]); (try simp only [List.set_cons_zero])
    refine WpH.takeB (i := 2) (v := ?_) rfl (by kernel_rfl) (fun _ _ _ h => h) (.val rfl (fun wz hwz => ?_)) ?_
    rotate_left
    · (obtain ⟨hcz, hfz⟩ := bcell hwz; go_simp; try (with_reducible rfl))
    (simp only [Act.put]); (try simp only [List.setIfInBounds_toArray]); (try simp only [List.set_cons_succ]); (try simp only [List.set_cons_zero])
    refine WpH.takeB (i := 3) rfl (by kernel_rfl) (fun _ _ _ h => h) (.call rfl (fun wz hwz => HW.out wz) (fun wz hwz => ?_)) ?_
    · go_simp; try (with_reducible rfl)
    (simp only [Act.put]); (try simp only [List.setIfInBounds_toArray]); (try simp only [List.set_cons_succ]); (try simp only [List.set_cons_zero])
    refine WpH.takeB (i := 4) (v := ?_) rfl (by kernel_rfl) (fun _ _ _ h => h) (.val rfl (fun wz hwz => ?_)) ?_
    rotate_left
    · go_simp; try (with_reducible rfl)
    (simp only [Act.put]); (try simp only [List.setIfInBounds_toArray]); (try simp only [List.set_cons_succ]); (try simp only [List.set_cons_zero])
    refine WpH.doneB (by kernel_rfl) (fun w2 hw2 => ?_)
    (try simp only [List.drop_succ_cons]); (try simp only [List.drop_zero]); (try simp only [Nat.reduceSub]); (try simp only [List.take_succ_cons]); (try simp only [List.take_zero])
    replace hb00 := bl_call hb00 (Nat.le_refl _) hw2
    replace hx := hx.call hw2
    go_wp2_with fail
    go_ret
    exact ⟨ret_int (by omega), by repeat (first | exact Below.refl _ _ | with_reducible assumption | (refine bl_alloc ?_ (Nat.le_refl _) _) | (refine bl_set ?_ (by dsimp only; omega) _) | (refine Below.drew ?_) | (refine bl_drewN ?_ _) | (refine bl_call ?_ (Nat.le_refl _) (by assumption)))⟩

set_option maxHeartbeats 1000000 in
theorem ref9_Out (f : Nat) (y : CK) (hy : y.ok) (w : World) : Calls Try.prog 62 #[y.rval f] w (RetI y.nout w) := by
  cases y with
  | count =>
    rw [rval_count]
    go_enter Try.func62, Try.ntmps62
    go_wp2
    go_ret
    exact ⟨rfl, by repeat (first | exact Below.refl _ _ | with_reducible assumption | (refine bl_alloc ?_ (Nat.le_refl _) _) | (refine bl_set ?_ (by dsimp only; omega) _) | (refine Below.drew ?_) | (refine bl_drewN ?_ _) | (refine bl_call ?_ (Nat.le_refl _) (by assumption)))⟩
  | sum b =>
    rw [rval_sum]
    go_enter Try.func62, Try.ntmps62
    go_wp2
    go_ret
    exact ⟨rfl, by repeat (first | exact Below.refl _ _ | with_reducible assumption | (refine bl_alloc ?_ (Nat.le_refl _) _) | (refine bl_set ?_ (by dsimp only; omega) _) | (refine Below.drew ?_) | (refine bl_drewN ?_ _) | (refine bl_call ?_ (Nat.le_refl _) (by assumption)))⟩
  | vec b l c =>
    rw [rval_vec]
    go_enter Try.func62, Try.ntmps62
    go_wp2
    go_ret
    exact ⟨rfl, by repeat (first | exact Below.refl _ _ | with_reducible assumption | (refine bl_alloc ?_ (Nat.le_refl _) _) | (refine bl_set ?_ (by dsimp only; omega) _) | (refine Below.drew ?_) | (refine bl_drewN ?_ _) | (refine bl_call ?_ (Nat.le_refl _) (by assumption)))⟩
  | hist l c =>
    rw [rval_hist]
    go_enter Try.func62, Try.ntmps62
    go_wp2
    go_ret
    exact ⟨rfl, by repeat (first | exact Below.refl _ _ | with_reducible assumption | (refine bl_alloc ?_ (Nat.le_refl _) _) | (refine bl_set ?_ (by dsimp only; omega) _) | (refine Below.drew ?_) | (refine bl_drewN ?_ _) | (refine bl_call ?_ (Nat.le_refl _) (by assumption)))⟩
  | multi l m c =>
    rw [rval_multi]
    go_enter Try.func62, Try.ntmps62
    go_wp2
    go_ret
    exact ⟨rfl, by repeat (first | exact Below.refl _ _ | with_reducible assumption | (refine bl_alloc ?_ (Nat.le_refl _) _) | (refine bl_set ?_ (by dsimp only; omega) _) | (refine Below.drew ?_) | (refine bl_drewN ?_ _) | (refine bl_call ?_ (Nat.le_refl _) (by assumption)))⟩

set_option maxHeartbeats 1000000 in
theorem ref9_Calls_chunk (k f b l m : Int) (c n : Nat) (hk : (k == 1) = false) (hk2 : (k == 2) = false) (hc1 : 1 ≤ c) (hc2 : c ≤ 16) (hn : n ≤ 2048) (w : World)
    (hI : ∀ wz, Calls Try.prog 61 #[.agg #[.int .i64 k, .int .i64 f, .int .i64 b, .int .i64 l, .int .i64 m, .int .i64 c]] wz (RetI n wz)) :
    Calls Try.prog 64 #[.agg #[.int .i64 k, .int .i64 f, .int .i64 b, .int .i64 l, .int .i64 m, .int .i64 c]] w (RetI ((n + c - 1) / c) w) := by
  have HI := Lib.hid hI
  clear hI
  have hb00 : Below w.heap.size w w := Below.refl _ _
  go_enter Try.func64, Try.ntmps64
  go_upto_region 1 with fail
  have hx := Vs.new w [.int .i64 k, .int .i64 f, .int .i64 b, .int .i64 l, .int .i64 m, .int .i64 c] #[.int .i64 k, .int .i64 f, .int .i64 b, .int .i64 l, .int .i64 m, .int .i64 c] 72 rfl
  have hbA : Below w.heap.size w (w.alloc (.cells #[.int .i64 k, .int .i64 f, .int .i64 b, .int .i64 l, .int .i64 m, .int .i64 c] 72)) := by repeat (first | exact Below.refl _ _ | with_reducible assumption | (refine bl_alloc ?_ (Nat.le_refl _) _))
  replace hb00 := bl_call hb00 (Nat.le_refl _) hbA
  clear hbA
  generalize w.alloc (.cells #[.int .i64 k, .int .i64 f, .int .i64 b, .int .i64 l, .int .i64 m, .int .i64 c] 72) = w1 at hb00 hx ⊢
  obtain ⟨⟨x0, x1, x2, x3, x4, x5⟩, ⟨x6, x7, x8, x9, x10, x11⟩, x12⟩ := hx.get6
  go_wp2_with fail
  go_loopw [3, 4] (fun u v wr => ∃ (j p : Nat), j ≤ 2048 ∧ p ≤ 2064 ∧ u = .int .i64 j ∧ v = .int .i64 p ∧ Hid (p = j * c) ∧ Hid (j = 0 ∨ (j - 1) * c < n) ∧ Vs wr w.heap.size [.int .i64 k, .int .i64 f, .int .i64 b, .int .i64 l, .int .i64 m, .int .i64 c] ∧ Below w.heap.size w wr) (fun _ v _ => 2064 - (intOf v).toNat)
  case atStart => exact ⟨0, 0, by omega, by omega, rfl, rfl, (Nat.zero_mul c).symm, .inl rfl, hx, hb00⟩
  case round =>
    clear x0 x1 x2 x3 x4 x5 x6 x7 x8 x9 x10 x11 x12
    clear hx hb00
    obtain ⟨j, p, hj, hp, rfl, rfl, hpj, hj0, hx, hb00⟩ := hrel
    obtain ⟨⟨x0, x1, x2, x3, x4, x5⟩, ⟨x6, x7, x8, x9, x10, x11⟩, x12⟩ := hx.get6
    by_cases hlt : p < n
    · have hjj : j + 1 ≤ 2048 := by
        have h1 := hpj.out
        have h2 : j * 1 ≤ j * c := Nat.mul_le_mul_left j hc1
        omega
      go_wp2_with (first
        | (go_at_call 61; refine (HI.out _).mono ?_; rintro e w2 ⟨rfl, hb2⟩; replace hb00 := bl_call hb00 (Nat.le_refl _) hb2; replace hx := hx.call hb2; obtain ⟨⟨x0, x1, x2, x3, x4, x5⟩, ⟨x6, x7, x8, x9, x10, x11⟩, x12⟩ := hx.get6))
      go_roundw
      case rel => exact ⟨j + 1, p + c, hjj, by omega, by go_num, by go_num, (by rw [hpj.out, Nat.succ_mul] : p + c = (j + 1) * c), .inr (by rw [Nat.add_sub_cancel, ← hpj.out]; exact hlt), hx, hb00⟩
      case measure => simp [intOf]; omega
    · have hge : n ≤ j * c := by rw [← hpj.out]; omega
      have HE := Lib.hid (ceil_of hc1 hge hj0.out)
      clear hge
      go_wp2_with (first
        | (go_at_call 61; refine (HI.out _).mono ?_; rintro e w2 ⟨rfl, hb2⟩; replace hb00 := bl_call hb00 (Nat.le_refl _) hb2; replace hx := hx.call hb2; obtain ⟨⟨x0, x1, x2, x3, x4, x5⟩, ⟨x6, x7, x8, x9, x10, x11⟩, x12⟩ := hx.get6))
      go_ret
      exact ⟨ret_int (by rw [HE.out]), hb00⟩

theorem ref9_Calls (f : Nat) (y : CK) (hy : y.ok) (w : World) : Calls Try.prog 64 #[y.rval f] w (RetI y.calls w) := by
  have hI := fun wz => ref9_In f y hy wz
  have hn := CK.nin_le hy
  cases y with
  | count =>
    rw [rval_count]
    go_enter Try.func64, Try.ntmps64
    go_wp2
    go_ret
    exact ⟨rfl, by repeat (first | exact Below.refl _ _ | with_reducible assumption | (refine bl_alloc ?_ (Nat.le_refl _) _) | (refine bl_set ?_ (by dsimp only; omega) _) | (refine Below.drew ?_) | (refine bl_drewN ?_ _) | (refine bl_call ?_ (Nat.le_refl _) (by assumption)))⟩
  | sum b =>
    rw [rval_sum]
    go_enter Try.func64, Try.ntmps64
    go_wp2
    go_ret
    exact ⟨rfl, by repeat (first | exact Below.refl _ _ | with_reducible assumption | (refine bl_alloc ?_ (Nat.le_refl _) _) | (refine bl_set ?_ (by dsimp only; omega) _) | (refine Below.drew ?_) | (refine bl_drewN ?_ _) | (refine bl_call ?_ (Nat.le_refl _) (by assumption)))⟩
  | vec b l c =>
    rw [rval_vec] at hI ⊢
    exact ref9_Calls_chunk 3 f b l 0 c _ rfl rfl hy.2.2.1 hy.2.2.2 hn w hI
  | hist l c =>
    rw [rval_hist] at hI ⊢
    exact ref9_Calls_chunk 4 f 0 l 0 c _ rfl rfl hy.2.1 hy.2.2 hn w hI
  | multi l m c =>
    rw [rval_multi] at hI ⊢
    exact ref9_Calls_chunk 5 f 0 l m c _ rfl rfl hy.2.2.1 hy.2.2.2 hn w hI

end Go.Proofs.Ytiphahbeedeebaa

namespace Go.Proofs.Ytiphahbeedeebaa
open Go.RowKit Fm
set_option linter.unusedVariables false
set_option maxRecDepth 100000

theorem ntt_Next (n : Nat) (hn : n ≤ 1024) (w : World) : Calls Try.prog 109 #[.int .i64 n] w fun e w' => e = .returned (.int .i64 (nextP n)) ∧ w = w' := by
  go_enter Try.func109, Try.ntmps109
  go_wp2
  go_loop [3] (fun o => ∃ p : Nat, o = .int .i64 p ∧ Hid (OnWay n p) ∧ p ≤ 1024) (fun o => 1024 - (intOf o).toNat)
  case atStart => exact ⟨1, rfl, onWay_one n, by omega⟩
  case round =>
    obtain ⟨p, rfl, hp, hp2⟩ := hrel
    by_cases hlt : p < n
    · have h1 : p < 1024 := by omega
      have h2 := onWay_next hp.out hlt h1
      have h3 := (onWay_le h2).2
      have H2 := Lib.hid h2
      have h4 := (onWay_le hp.out).1
      clear h2
      go_wp2
      go_round
      case rel => exact ⟨2 * p, by go_num, H2.out, h3⟩
      case measure => simp [intOf]; omega
    · have h5 := Lib.hid (onWay_end hp.out hn hlt)
      go_wp2
      go_ret
      exact ⟨ret_int (by rw [h5.out]), rfl⟩

section
variable (f : Nat) (y : CK) (hy : y.ok)
include hy

set_option maxHeartbeats 1000000 in
theorem circuit_Joint (w : World) : Calls Try.prog 65 #[y.val f] w (RetI y.joint w) := by
  have HC := Lib.hid (fun wz => circuit_Calls f y hy wz)
  have hn := Nat.le_trans (show y.calls ≤ y.nin from by cases y with | count => exact Nat.le_refl _ | sum b => exact Nat.le_refl _ | vec b l c => exact ceil_le hy.2.2.1 | hist l c => exact ceil_le hy.2.1 | multi l m c => exact ceil_le hy.2.2.1) (CK.nin_le hy)
  have hb00 : Below w.heap.size w w := Below.refl _ _
  cases y with
  | count =>
    rw [val_count]
    go_enter Try.func65, Try.ntmps65
    go_wp2
    go_ret
    exact ⟨rfl, by repeat (first | exact Below.refl _ _ | with_reducible assumption | (refine bl_alloc ?_ (Nat.le_refl _) _) | (refine bl_set ?_ (by dsimp only; omega) _) | (refine Below.drew ?_) | (refine bl_drewN ?_ _) | (refine bl_call ?_ (Nat.le_refl _) (by assumption)))⟩
  | sum b =>
    rw [val_sum]
    go_enter Try.func65, Try.ntmps65
    go_wp2
    go_ret
    exact ⟨rfl, by repeat (first | exact Below.refl _ _ | with_reducible assumption | (refine bl_alloc ?_ (Nat.le_refl _) _) | (refine bl_set ?_ (by dsimp only; omega) _) | (refine Below.drew ?_) | (refine bl_drewN ?_ _) | (refine bl_call ?_ (Nat.le_refl _) (by assumption)))⟩
  | vec b l c =>
    rw [show CK.joint (.vec b l c) = CK.calls (.vec b l c) from rfl]
    generalize CK.calls (.vec b l c) = q at *
    rw [val_vec] at HC ⊢
    go_enter Try.func65, Try.ntmps65
    go_wp2_with (go_at_call 63; refine (HC.out _).mono ?_; rintro e w2 ⟨rfl, hb2⟩)
    go_ret
    exact ⟨rfl, by repeat (first | exact Below.refl _ _ | with_reducible assumption | (refine bl_alloc ?_ (Nat.le_refl _) _) | (refine bl_set ?_ (by dsimp only; omega) _) | (refine Below.drew ?_) | (refine bl_drewN ?_ _) | (refine bl_call ?_ (Nat.le_refl _) (by assumption)))⟩
  | hist l c =>
    rw [show CK.joint (.hist l c) = CK.calls (.hist l c) + 1 from rfl]
    generalize CK.calls (.hist l c) = q at *
    rw [val_hist] at HC ⊢
    go_enter Try.func65, Try.ntmps65
    go_wp2_with (go_at_call 63; refine (HC.out _).mono ?_; rintro e w2 ⟨rfl, hb2⟩)
    go_ret
    exact ⟨ret_int (by omega), by repeat (first | exact Below.refl _ _ | with_reducible assumption | (refine bl_alloc ?_ (Nat.le_refl _) _) | (refine bl_set ?_ (by dsimp only; omega) _) | (refine Below.drew ?_) | (refine bl_drewN ?_ _) | (refine bl_call ?_ (Nat.le_refl _) (by assumption)))⟩
  | multi l m c =>
    rw [show CK.joint (.multi l m c) = CK.calls (.multi l m c) + 1 from rfl]
    generalize CK.calls (.multi l m c) = q at *
    rw [val_multi] at HC ⊢
    go_enter Try.func65, Try.ntmps65
    go_wp2_with (go_at_call 63; refine (HC.out _).mono ?_; rintro e w2 ⟨rfl, hb2⟩)
    go_ret
    exact ⟨ret_int (by omega), by repeat (first | exact Below.refl _ _ | with_reducible assumption | (refine bl_alloc ?_ (Nat.le_refl _) _) | (refine bl_set ?_ (by dsimp only; omega) _) | (refine Below.drew ?_) | (refine bl_drewN ?_ _) | (refine bl_call ?_ (Nat.le_refl _) (by assumption)))⟩

set_option maxHeartbeats 1000000 in
theorem ref9_Joint (w : World) : Calls Try.prog 66 #[y.rval f] w (RetI y.joint w) := by
  have HC := Lib.hid (fun wz => ref9_Calls f y hy wz)
  have hn := Nat.le_trans (show y.calls ≤ y.nin from by cases y with | count => exact Nat.le_refl _ | sum b => exact Nat.le_refl _ | vec b l c => exact ceil_le hy.2.2.1 | hist l c => exact ceil_le hy.2.1 | multi l m c => exact ceil_le hy.2.2.1) (CK.nin_le hy)
  cases y with
  | count =>
    rw [rval_count]
    go_enter Try.func66, Try.ntmps66
    go_wp2
    go_ret
    exact ⟨rfl, by repeat (first | exact Below.refl _ _ | with_reducible assumption | (refine bl_alloc ?_ (Nat.le_refl _) _) | (refine bl_set ?_ (by dsimp only; omega) _) | (refine Below.drew ?_) | (refine bl_drewN ?_ _) | (refine bl_call ?_ (Nat.le_refl _) (by assumption)))⟩
  | sum b =>
    rw [rval_sum]
    go_enter Try.func66, Try.ntmps66
    go_wp2
    go_ret
    exact ⟨rfl, by repeat (first | exact Below.refl _ _ | with_reducible assumption | (refine bl_alloc ?_ (Nat.le_refl _) _) | (refine bl_set ?_ (by dsimp only; omega) _) | (refine Below.drew ?_) | (refine bl_drewN ?_ _) | (refine bl_call ?_ (Nat.le_refl _) (by assumption)))⟩
  | vec b l c =>
    rw [show CK.joint (.vec b l c) = CK.calls (.vec b l c) from rfl]
    generalize CK.calls (.vec b l c) = q at *
    rw [rval_vec] at HC ⊢
    go_enter Try.func66, Try.ntmps66
    go_wp2_with (go_at_call 64; refine (HC.out _).mono ?_; rintro e w2 ⟨rfl, hb2⟩)
    go_ret
    exact ⟨rfl, by repeat (first | exact Below.refl _ _ | with_reducible assumption | (refine bl_alloc ?_ (Nat.le_refl _) _) | (refine bl_set ?_ (by dsimp only; omega) _) | (refine Below.drew ?_) | (refine bl_drewN ?_ _) | (refine bl_call ?_ (Nat.le_refl _) (by assumption)))⟩
  | hist l c =>
    rw [show CK.joint (.hist l c) = CK.calls (.hist l c) + 1 from rfl]
    generalize CK.calls (.hist l c) = q at *
    rw [rval_hist] at HC ⊢
    go_enter Try.func66, Try.ntmps66
    go_wp2_with (go_at_call 64; refine (HC.out _).mono ?_; rintro e w2 ⟨rfl, hb2⟩)
    go_ret
    exact ⟨ret_int (by omega), by repeat (first | exact Below.refl _ _ | with_reducible assumption | (refine bl_alloc ?_ (Nat.le_refl _) _) | (refine bl_set ?_ (by dsimp only; omega) _) | (refine Below.drew ?_) | (refine bl_drewN ?_ _) | (refine bl_call ?_ (Nat.le_refl _) (by assumption)))⟩
  | multi l m c =>
    rw [show CK.joint (.multi l m c) = CK.calls (.multi l m c) + 1 from rfl]
    generalize CK.calls (.multi l m c) = q at *
    rw [rval_multi] at HC ⊢
    go_enter Try.func66, Try.ntmps66
    go_wp2_with (go_at_call 64; refine (HC.out _).mono ?_; rintro e w2 ⟨rfl, hb2⟩)
    go_ret
    exact ⟨ret_int (by omega), by repeat (first | exact Below.refl _ _ | with_reducible assumption | (refine bl_alloc ?_ (Nat.le_refl _) _) | (refine bl_set ?_ (by dsimp only; omega) _) | (refine Below.drew ?_) | (refine bl_drewN ?_ _) | (refine bl_call ?_ (Nat.le_refl _) (by assumption)))⟩

theorem circuit_Domain (hc : y.calls ≤ 511) (w : World) : Calls Try.prog 67 #[y.val f] w (RetI (nextP (y.calls + 1)) w) := by
  have HC := Lib.hid (fun wz => circuit_Calls f y hy wz)
  unfold CK.val at HC ⊢
  generalize y.calls = q at *
  have HN : Hid (∀ wz, Calls Try.prog 109 #[.int .i64 ((q : Int) + 1)] wz fun e w' => e = .returned (.int .i64 (nextP (q + 1))) ∧ wz = w') := fun wz => ntt_Next (q + 1) (by omega) wz
  go_enter Try.func67, Try.ntmps67
  go_wp2_with (first
    | (go_at_call 63; refine (HC.out _).mono ?_; rintro e w2 ⟨rfl, hb2⟩)
    | (go_at_call 109; refine (HN.out _).mono ?_; rintro e w3 ⟨rfl, rfl⟩))
  go_ret
  exact ⟨rfl, by repeat (first | exact Below.refl _ _ | with_reducible assumption | (refine bl_alloc ?_ (Nat.le_refl _) _) | (refine bl_set ?_ (by dsimp only; omega) _) | (refine Below.drew ?_) | (refine bl_drewN ?_ _) | (refine bl_call ?_ (Nat.le_refl _) (by assumption)))⟩

set_option maxHeartbeats 1000000 in
theorem ref9_Domain (hc : y.calls ≤ 511) (w : World) : Calls Try.prog 68 #[y.rval f] w (RetI (nextP (y.calls + 1)) w) := by
  have HC := Lib.hid (fun wz => ref9_Calls f y hy wz)
  unfold CK.rval at HC ⊢
  generalize y.calls = q at *
  clear hy
  generalize ((y.k : Nat) : Int) = k at *
  generalize ((y.b : Nat) : Int) = b at *
  generalize ((y.l : Nat) : Int) = l at *
  generalize ((y.m : Nat) : Int) = m at *
  generalize ((y.c : Nat) : Int) = c at *
  have hb00 : Below w.heap.size w w := Below.refl _ _
  go_enter Try.func68, Try.ntmps68
  go_upto_region 1 with fail
  have hx := Vs.new w [.int .i64 k, .int .i64 f, .int .i64 b, .int .i64 l, .int .i64 m, .int .i64 c] #[.int .i64 k, .int .i64 f, .int .i64 b, .int .i64 l, .int .i64 m, .int .i64 c] 72 rfl
  have hbA : Below w.heap.size w (w.alloc (.cells #[.int .i64 k, .int .i64 f, .int .i64 b, .int .i64 l, .int .i64 m, .int .i64 c] 72)) := by repeat (first | exact Below.refl _ _ | with_reducible assumption | (refine bl_alloc ?_ (Nat.le_refl _) _))
  replace hb00 := bl_call hb00 (Nat.le_refl _) hbA
  clear hbA
  generalize w.alloc (.cells #[.int .i64 k, .int .i64 f, .int .i64 b, .int .i64 l, .int .i64 m, .int .i64 c] 72) = w1 at hb00 hx ⊢
  go_wp2_with fail
  go_loopw [3] (fun o wr => ∃ p : Nat, o = .int .i64 p ∧ Hid (OnWay (q + 1) p) ∧ p ≤ 1024 ∧ Vs wr w.heap.size [.int .i64 k, .int .i64 f, .int .i64 b, .int .i64 l, .int .i64 m, .int .i64 c] ∧ Below w.heap.size w wr) (fun o _ => 1024 - (intOf o).toNat)
  case atStart => exact ⟨1, rfl, onWay_one _, by omega, hx, hb00⟩
  case round =>
    clear hx hb00
    obtain ⟨p, rfl, hp, hp2, hx, hb00⟩ := hrel
    obtain ⟨⟨x0, x1, x2, x3, x4, x5⟩, ⟨x6, x7, x8, x9, x10, x11⟩, x12⟩ := hx.get6
    by_cases hlt : p < q + 1
    · have h2 := onWay_next hp.out hlt (by omega)
      have h3 := (onWay_le h2).2
      have H2 := Lib.hid h2
      have h4 := (onWay_le hp.out).1
      clear h2
      go_wp2_with (first
        | (go_at_call 64; refine (HC.out _).mono ?_; rintro e w2 ⟨rfl, hb2⟩; replace hb00 := bl_call hb00 (Nat.le_refl _) hb2; replace hx := hx.call hb2))
      go_roundw
      case rel => exact ⟨2 * p, by go_num, H2.out, h3, hx, hb00⟩
      case measure => simp [intOf]; omega
    · have h5 := Lib.hid (onWay_end hp.out (by omega) hlt)
      go_wp2_with (first
        | (go_at_call 64; refine (HC.out _).mono ?_; rintro e w2 ⟨rfl, hb2⟩; replace hb00 := bl_call hb00 (Nat.le_refl _) hb2; replace hx := hx.call hb2))
      go_ret
      exact ⟨ret_int (by rw [h5.out]), hb00⟩

theorem ref9_Arity (w : World) : Calls Try.prog 69 #[y.rval f] w (RetI y.arity w) := by
  cases y with
  | count =>
    rw [rval_count]
    go_enter Try.func69, Try.ntmps69
    go_wp2
    go_ret
    exact ⟨rfl, by repeat (first | exact Below.refl _ _ | with_reducible assumption | (refine bl_alloc ?_ (Nat.le_refl _) _) | (refine bl_set ?_ (by dsimp only; omega) _) | (refine Below.drew ?_) | (refine bl_drewN ?_ _) | (refine bl_call ?_ (Nat.le_refl _) (by assumption)))⟩
  | sum b =>
    rw [rval_sum]
    go_enter Try.func69, Try.ntmps69
    go_wp2
    go_ret
    exact ⟨rfl, by repeat (first | exact Below.refl _ _ | with_reducible assumption | (refine bl_alloc ?_ (Nat.le_refl _) _) | (refine bl_set ?_ (by dsimp only; omega) _) | (refine Below.drew ?_) | (refine bl_drewN ?_ _) | (refine bl_call ?_ (Nat.le_refl _) (by assumption)))⟩
  | vec b l c =>
    rw [rval_vec, show CK.arity (.vec b l c) = 2 * c from rfl]
    have hc := hy.2.2
    go_enter Try.func69, Try.ntmps69
    go_wp2
    go_ret
    exact ⟨ret_int (by omega), by repeat (first | exact Below.refl _ _ | with_reducible assumption | (refine bl_alloc ?_ (Nat.le_refl _) _) | (refine bl_set ?_ (by dsimp only; omega) _) | (refine Below.drew ?_) | (refine bl_drewN ?_ _) | (refine bl_call ?_ (Nat.le_refl _) (by assumption)))⟩
  | hist l c =>
    rw [rval_hist, show CK.arity (.hist l c) = 2 * c from rfl]
    have hc := hy.2
    go_enter Try.func69, Try.ntmps69
    go_wp2
    go_ret
    exact ⟨ret_int (by omega), by repeat (first | exact Below.refl _ _ | with_reducible assumption | (refine bl_alloc ?_ (Nat.le_refl _) _) | (refine bl_set ?_ (by dsimp only; omega) _) | (refine Below.drew ?_) | (refine bl_drewN ?_ _) | (refine bl_call ?_ (Nat.le_refl _) (by assumption)))⟩
  | multi l m c =>
    rw [rval_multi, show CK.arity (.multi l m c) = 2 * c from rfl]
    have hc := hy.2.2
    go_enter Try.func69, Try.ntmps69
    go_wp2
    go_ret
    exact ⟨ret_int (by omega), by repeat (first | exact Below.refl _ _ | with_reducible assumption | (refine bl_alloc ?_ (Nat.le_refl _) _) | (refine bl_set ?_ (by dsimp only; omega) _) | (refine Below.drew ?_) | (refine bl_drewN ?_ _) | (refine bl_call ?_ (Nat.le_refl _) (by assumption)))⟩
end

/-- what is left open below what a number of bits says -/
theorem circuit_offset (k f b l c : Int) (m : Nat) (h1 : m ≤ 64) (w : World) :
    Calls Try.prog 97 #[.agg #[.int .u8 k, .int .u8 f, .int .i64 b, .int .i64 l, .int .i64 m, .int .i64 c]] w fun e w' => e = .returned (.int .u64 (offN m : Int)) ∧ Below w.heap.size w w' := by
  have HW := Lib.hid (fun wz => circuit_weightBits k f b l c m h1 wz)
  have hs := bitLen_small m h1
  have HO : Hid ((2 ^ Lib.bitLen m : Nat) - 1 - m = offN m) := rfl
  generalize Lib.bitLen m = q at *
  have hmx : max (m : Int) 0 = (m : Int) := by omega
  obtain ⟨p, hp⟩ : ∃ p, 2 ^ q = p := ⟨_, rfl⟩
  have hp7 : 2 ^ q ≤ 2 ^ 7 := Nat.pow_le_pow_right (by omega) hs.1
  have hpm := hs.2.1
  rw [hp] at hp7 hpm HO
  have hpow : (2 : Int) ^ q = (p : Int) := by rw [← hp]; exact (Int.natCast_pow 2 q).symm
  have hq7 := hs.1
  have hpx : (2 : Nat) ^ 7 = 128 := rfl
  rw [hpx] at hp7
  have hb00 : Below w.heap.size w w := Below.refl _ _
  clear hs hpx hp
  go_enter Try.func97, Try.ntmps97
  go_upto_region 1 with fail
  have hx := Vs.new w [.int .u8 k, .int .u8 f, .int .i64 b, .int .i64 l, .int .i64 m, .int .i64 c] #[.int .u8 k, .int .u8 f, .int .i64 b, .int .i64 l, .int .i64 m, .int .i64 c] 60 rfl
  have hbA : Below w.heap.size w (w.alloc (.cells #[.int .u8 k, .int .u8 f, .int .i64 b, .int .i64 l, .int .i64 m, .int .i64 c] 60)) := by repeat (first | exact Below.refl _ _ | with_reducible assumption | (refine bl_alloc ?_ (Nat.le_refl _) _))
  replace hb00 := bl_call hb00 (Nat.le_refl _) hbA
  clear hbA
  generalize w.alloc (.cells #[.int .u8 k, .int .u8 f, .int .i64 b, .int .i64 l, .int .i64 m, .int .i64 c] 60) = w1 at hb00 hx ⊢
  obtain ⟨⟨x0, x1, x2, x3, x4, x5⟩, ⟨x6, x7, x8, x9, x10, x11⟩, x12⟩ := hx.get6
  refine region_B (n := 9) (m := 10) (f := 9) (by kernel_rfl) (by kernel_rfl) rfl ?_
  refine WpH.takeB (i := 0) (v := ?_) rfl (by kernel_rfl) (fun _ _ _ h => h) (.val rfl (fun wz hwz => ?_)) ?_
  rotate_left
  · (obtain ⟨hcz, hfz⟩ := bcell hwz; go_simp; try (with_reducible rfl))
  (simp only [Act.put]); (try simp only [List.setIfInBounds_toArray]); (try simp only [List.set_cons_succ]); (try simp only [List.set_cons_zero])
  refine WpH.takeB (i := 1) rfl (by kernel_rfl) (fun _ _ _ h => h) (.call rfl (fun wz hwz => HW.out wz) (fun wz hwz => ?_)) ?_
  · go_simp; try (with_reducible rfl)
  (simp only [Act.put]); (try simp only [List.setIfInBounds_toArray]); (try simp only [List.set_cons_succ]); (try simp only [List.set_cons_zero])
  refine WpH.takeB (i := 2) (v := ?_) rfl (by kernel_rfl) (fun _ _ _ h => h) (.val rfl (fun wz hwz => ?_)) ?_
  rotate_left
  · go_simp; try (with_reducible rfl)
  (simp only [Act.put]); (try simp only [List.setIfInBounds_toArray]); (try simp only [List.set_cons_succ]); (try simp only [List.set_cons_zero])
  refine WpH.takeB (i := 3) (v := ?_) rfl (by kernel_rfl) (fun _ _ _ h => h) (.val rfl (fun wz hwz => ?_)) ?_
  rotate_left
  · go_simp; try (with_reducible rfl)
  (simp only [Act.put]); (try simp only [List.setIfInBounds_toArray]); (try simp only [List.set_cons_succ]); (try simp only [List.set_cons_zero])
  refine WpH.takeB (i := 4) (v := ?_) rfl (by kernel_rfl) (fun _ _ _ h => h) (.val rfl (fun wz hwz => ?_)) ?_
  rotate_left
  · go_simp; try (with_reducible rfl)
  (simp only [Act.put]); (try simp only [List.setIfInBounds_toArray]); (try simp only [List.set_cons_succ]); (try simp only [List.set_cons_zero])
  refine WpH.takeB (i := 5) (v := ?_) rfl (by kernel_rfl) (fun _ _ _ h => h) (.val rfl (fun wz hwz => ?_)) ?_
  rotate_left
  · (obtain ⟨hcz, hfz⟩ := bcell hwz; go_simp; try (with_reducible rfl))
  (simp only [Act.put]); (try simp only [List.setIfInBounds_toArray]); (try simp only [List.set_cons_succ]); (try simp only [List.set_cons_zero])
  refine WpH.takeB (i := 6) (v := ?_) rfl (by kernel_rfl) (fun _ _ _ h => h) (.val rfl (fun wz hwz => ?_)) ?_
  rotate_left
  · go_simp; try (with_reducible rfl)
  (simp only [Act.put]); (try simp only [List.setIfInBounds_toArray]); (try simp only [List.set_cons_succ]); (try simp only [List.set_cons_zero])
  refine WpH.takeB (i := 7) (v := ?_) rfl (by kernel_rfl) (fun _ _ _ h => h) (.val rfl (fun wz hwz => ?_)) ?_
  rotate_left
  · go_simp; try (with_reducible rfl)
  (simp only [Act.put]); (try simp only [List.setIfInBounds_toArray]); (try simp only [List.set_cons_succ]); (try simp only [List.set_cons_zero])
  refine WpH.takeB (i := 8) (v := ?_) rfl (by kernel_rfl) (fun _ _ _ h => h) (.val rfl (fun wz hwz => ?_)) ?_
  rotate_left
  · go_simp; try (with_reducible rfl)
  (simp only [Act.put]); (try simp only [List.setIfInBounds_toArray]); (try simp only [List.set_cons_succ]); (try simp only [List.set_cons_zero])
  refine WpH.doneB (by kernel_rfl) (fun w2 hw2 => ?_)
  (try simp only [List.drop_succ_cons]); (try simp only [List.drop_zero]); (try simp only [Nat.reduceSub]); (try simp only [List.take_succ_cons]); (try simp only [List.take_zero])
  replace hb00 := bl_call hb00 (Nat.le_refl _) hw2
  replace hx := hx.call hw2
  go_wp2_with fail
  go_ret
  exact ⟨ret_int (by have := HO.out; omega), hb00⟩

/-- how much one adds at most -/
def CK.most : CK → Nat
  | sum b => 2 ^ b - 1
  | vec b _ _ => 2 ^ b - 1
  | _ => 1

def RetU (n : Nat) (w : World) (e : Ending) (w' : World) : Prop := e = .returned (.int .u64 (n : Int)) ∧ Below w.heap.size w w'

theorem pow32 {b : Nat} (h : b ≤ 32) : 1 ≤ 2 ^ b ∧ 2 ^ b ≤ 4294967296 := ⟨Nat.one_le_two_pow, Nat.le_trans (Nat.pow_le_pow_right (by omega) h) (by decide)⟩

set_option maxHeartbeats 1000000 in
theorem circuit_Most (f : Nat) (y : CK) (hy : y.ok) (w : World) : Calls Try.prog 50 #[y.val f] w (RetU y.most w) := by
  cases y with
  | count =>
    rw [val_count]
    go_enter Try.func50, Try.ntmps50
    go_wp2
    go_ret
    exact ⟨rfl, by repeat (first | exact Below.refl _ _ | with_reducible assumption | (refine bl_alloc ?_ (Nat.le_refl _) _) | (refine bl_set ?_ (by dsimp only; omega) _) | (refine Below.drew ?_) | (refine bl_drewN ?_ _) | (refine bl_call ?_ (Nat.le_refl _) (by assumption)))⟩
  | sum b =>
    rw [val_sum, show CK.most (.sum b) = 2 ^ b - 1 from rfl]
    have hb := hy.2
    have hp2 := pow32 hb
    have hmx : max (b : Int) 0 = (b : Int) := by omega
    have hmn : min (b : Int) 63 = (b : Int) := by omega
    have hpow : (2 : Int) ^ b = ((2 ^ b : Nat) : Int) := (Int.natCast_pow 2 b).symm
    generalize 2 ^ b = p at *
    go_enter Try.func50, Try.ntmps50
    go_wp2
    go_ret
    exact ⟨ret_int (by omega), by repeat (first | exact Below.refl _ _ | with_reducible assumption | (refine bl_alloc ?_ (Nat.le_refl _) _) | (refine bl_set ?_ (by dsimp only; omega) _) | (refine Below.drew ?_) | (refine bl_drewN ?_ _) | (refine bl_call ?_ (Nat.le_refl _) (by assumption)))⟩
  | vec b l c =>
    rw [val_vec, show CK.most (.vec b l c) = 2 ^ b - 1 from rfl]
    have hb := hy.1.2
    have hp2 := pow32 hb
    have hmx : max (b : Int) 0 = (b : Int) := by omega
    have hmn : min (b : Int) 63 = (b : Int) := by omega
    have hpow : (2 : Int) ^ b = ((2 ^ b : Nat) : Int) := (Int.natCast_pow 2 b).symm
    generalize 2 ^ b = p at *
    go_enter Try.func50, Try.ntmps50
    go_wp2
    go_ret
    exact ⟨ret_int (by omega), by repeat (first | exact Below.refl _ _ | with_reducible assumption | (refine bl_alloc ?_ (Nat.le_refl _) _) | (refine bl_set ?_ (by dsimp only; omega) _) | (refine Below.drew ?_) | (refine bl_drewN ?_ _) | (refine bl_call ?_ (Nat.le_refl _) (by assumption)))⟩
  | hist l c =>
    rw [val_hist]
    go_enter Try.func50, Try.ntmps50
    go_wp2
    go_ret
    exact ⟨rfl, by repeat (first | exact Below.refl _ _ | with_reducible assumption | (refine bl_alloc ?_ (Nat.le_refl _) _) | (refine bl_set ?_ (by dsimp only; omega) _) | (refine Below.drew ?_) | (refine bl_drewN ?_ _) | (refine bl_call ?_ (Nat.le_refl _) (by assumption)))⟩
  | multi l m c =>
    rw [val_multi]
    go_enter Try.func50, Try.ntmps50
    go_wp2
    go_ret
    exact ⟨rfl, by repeat (first | exact Below.refl _ _ | with_reducible assumption | (refine bl_alloc ?_ (Nat.le_refl _) _) | (refine bl_set ?_ (by dsimp only; omega) _) | (refine Below.drew ?_) | (refine bl_drewN ?_ _) | (refine bl_call ?_ (Nat.le_refl _) (by assumption)))⟩

/-! ### the reference's circuit of a circuit -/
theorem load_rcir {w : World} {b : Nat} {p q r s t u : Value} (h : Vs w b [p, q, r, s, t, u]) : (loadVar 72 ⟨b, 0, none⟩).run Try.prog w = .ok (.agg #[p, q, r, s, t, u]) w := by
  obtain ⟨⟨c0, c1, c2, c3, c4, c5⟩, _⟩ := h.get6
  simp [loadVar, go_sem, c0, c1, c2, c3, c4, c5]
theorem results_rcir {fn : Func} {p : Tmp} {tmps : Array Value} {w : World} {b : Nat} {x0 x1 x2 x3 x4 x5 : Value} (hv : Vs w b [x0, x1, x2, x3, x4, x5]) (h : fn.results = #[.cell p 72]) (hp : tmps.getD p undef = .pointer (some ⟨b, 0, none⟩)) :
    (results fn tmps).run Try.prog w = .ok (.agg #[x0, x1, x2, x3, x4, x5]) w := by
  have hl := load_rcir hv
  rw [Array.getD_eq_getD_getElem?] at hp
  simp only [results, h]
  simp [asAddr, hp, hl]
theorem load_cir {w : World} {b : Nat} {p q r s t u : Value} (h : Vs w b [p, q, r, s, t, u]) : (loadVar 60 ⟨b, 0, none⟩).run Try.prog w = .ok (.agg #[p, q, r, s, t, u]) w := by
  obtain ⟨⟨c0, c1, c2, c3, c4, c5⟩, _⟩ := h.get6
  simp [loadVar, go_sem, c0, c1, c2, c3, c4, c5]
theorem results_cir {fn : Func} {p : Tmp} {tmps : Array Value} {w : World} {b : Nat} {x0 x1 x2 x3 x4 x5 : Value} (hv : Vs w b [x0, x1, x2, x3, x4, x5]) (h : fn.results = #[.cell p 60]) (hp : tmps.getD p undef = .pointer (some ⟨b, 0, none⟩)) :
    (results fn tmps).run Try.prog w = .ok (.agg #[x0, x1, x2, x3, x4, x5]) w := by
  have hl := load_cir hv
  rw [Array.getD_eq_getD_getElem?] at hp
  simp only [results, h]
  simp [asAddr, hp, hl]

set_option maxHeartbeats 1000000 in
theorem law10_Ref (k f b l m c : Int) (hk0 : 0 ≤ k) (hk1 : k ≤ 255) (hf0 : 0 ≤ f) (hf1 : f ≤ 255) (w : World) :
    Calls Try.prog 39 #[.agg #[.int .u8 k, .int .u8 f, .int .i64 b, .int .i64 l, .int .i64 m, .int .i64 c]] w fun e w' => e = .returned (.agg #[.int .i64 k, .int .i64 f, .int .i64 b, .int .i64 l, .int .i64 m, .int .i64 c]) ∧ Below w.heap.size w w' := by
  go_enter Try.func39, Try.ntmps39
  go_wp2
  refine bodyPost_ret (by simp [results, Try.results39, go_sem]) rfl ⟨rfl, by repeat (first | exact Below.refl _ _ | with_reducible assumption | (refine bl_alloc ?_ (Nat.le_refl _) _) | (refine bl_set ?_ (by dsimp only; omega) _) | (refine Below.drew ?_) | (refine bl_drewN ?_ _) | (refine bl_call ?_ (Nat.le_refl _) (by assumption)))⟩

end Go.Proofs.Ytiphahbeedeebaa
