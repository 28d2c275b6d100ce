/-
 Frame, Open, TapeBack, Law9b, Cir, Ref9, Cir2, Cir3: what the statements of this layer share.
-/
import Derived.Test.YtfbfbijkkbflkaaGreatDoorRows
import Derived.WalkKit
import Derived.ProofKit
import Derived.OpenShut
import Derived.Deep.Slices
import Derived.Laws.OwnMore
import Derived.Test.YtfbfbijkkbflkaaGreatDoorMai
import Derived.Test.YtfbfbijkkbflkaaGreatDoorMaj
namespace Go.Proofs.YtfbfbijkkbflkaaGreatDoor
open Go.ChangeShapes Go.WideShapes Go.ChangeAt Go.RowKit

theorem own_knob : ownKnob Tryz.prog.godebug = none := by kernel_rfl
theorem laid_out : laidOutB Tryz.prog = true := by kernel_rfl

theorem maps_rowed : mapsRowed Tryz.checked.prog = true := by kernel_rfl
theorem laid_out' : laidOutB Tryz.checked.prog = true := laid_out
theorem stops_heard : Program.stopsHeard Tryz.checked.prog = true := by kernel_rfl
theorem may_enter : Program.mayEnter Tryz.checked.prog = true := by kernel_rfl
theorem and_mk {a b : Bool} (h : a = true) (k : b = true) : (a && b) = true := by rw [h, k]; rfl

theorem trodAll_below {H : Type} {enc : TypeId × Value → H} {P : Program} {W W' : World} (hl : laidOutB P = true) (hb : Below W.heap.size W W') :
  ∀ (ts : List TypeId), ts.all (fun t => P.readableRec t && decide (t < P.types.size)) = true → ∀ (vs : List Value) (ds : List (DataW H)) (ps : List MemPlace),
   DataW.TrodAll enc P W 0 (fun _ => true) true ts vs ds ps → (∀ x ∈ ps, x.block < W.heap.size) → DataW.TrodAll enc P W' 0 (fun b => decide (b < W.heap.size)) true ts vs ds ps
 | [], _, [], [], ps, h, _ => h
 | [], _, _ :: _, _, _, h, _ => by cases h
 | [], _, [], _ :: _, _, h, _ => by cases h
 | _ :: _, _, [], _, _, h, _ => by cases h
 | _ :: _, _, _ :: _, [], _, h, _ => by cases h
 | t :: ts, hts, v :: vs, d :: ds, ps, h, hlt => by
  obtain ⟨p, q, h1, h2, rfl⟩ := h
  simp only [List.all_cons, Bool.and_eq_true, decide_eq_true_eq] at hts
  exact ⟨p, q, Below.trod hl hts.1.1 hts.1.2 h1 hb (fun x hx => hlt x (List.mem_append_left _ hx)), trodAll_below hl hb ts hts.2 vs ds q h2 (fun x hx => hlt x (List.mem_append_right _ hx)), rfl⟩

theorem trodAll_length {H : Type} {enc : TypeId × Value → H} {P : Program} {W : World} {b : Nat} {sp : Nat → Bool} {hd : Bool} :
  ∀ (ts : List TypeId) (vs : List Value) (ds : List (DataW H)) (ps : List MemPlace), DataW.TrodAll enc P W b sp hd ts vs ds ps → ds.length = ts.length
 | [], [], [], _, _ => rfl
 | [], _ :: _, _, _, h => by cases h
 | [], [], _ :: _, _, h => by cases h
 | _ :: _, [], _, _, h => by cases h
 | _ :: _, _ :: _, [], _, h => by cases h
 | _ :: ts, _ :: vs, _ :: ds, _, h => by
  obtain ⟨p, q, _, h2, _⟩ := h
  simp only [List.length_cons, trodAll_length ts vs ds q h2]

theorem law_post {H : Type} {enc : TypeId × Value → H} {P : Program} {fn : Func} {s : ChangeSpec} {W W' : World} {args : Array Value} {ds gs : List (DataW H)} {before : List MemPlace} {tb : TypeId}
  (hl : laidOutB P = true) (hts : fn.params.toList.all (fun t => P.readableRec t && decide (t < P.types.size)) = true)
  (hres : fn.resultTypes = #[tb]) (htb : P.underlying tb = some .bool) (hv : s.vars = [])
  (hs : ∀ ds : List (DataW H), ds.length = fn.params.toList.length → s.fn H ds = { results := [.lit (.bool true)], args := ds })
  (hW : DataW.Whole enc P fn.params.toList s.vars false W args.toList ds gs before) (hb : Below W.heap.size W W') :
  s.post enc P fn false true false false W args (.bool true) W' := by
 have hW' := hW
 obtain ⟨p, q, hA, hV, hpq, _, _⟩ := hW
 rw [hv] at hV
 obtain ⟨rfl, rfl⟩ := trodVars_none hV
 have hfn : s.fn H (ds ++ []) = { results := [.lit (.bool true)], args := ds } := by
  rw [List.append_nil]
  exact hs ds (trodAll_length _ _ _ _ hA)
 have hlt : ∀ x ∈ p, x.block < W.heap.size := fun x hx => hW'.lt x (by rw [hpq]; exact List.mem_append_left _ hx)
 refine ⟨ds, [], before, [], p, [], hW', ?_, ?_, ?_, ?_, fun h => by cases h⟩
 ·rw [hfn, hres]
  exact trodAll_mk1 (shut_bool htb true)
 ·rw [hfn]
  exact trodAll_below hl hb _ hts _ _ _ hA hlt
 ·rw [hfn, hv]
  rfl
 ·exact hb.frame _

end Go.Proofs.YtfbfbijkkbflkaaGreatDoor

namespace Go.Proofs.YtfbfbijkkbflkaaGreatDoor
open Go.RowKit Go.ChangeShapes Go.WideShapes Go.Deep
set_option linter.unusedVariables false
set_option maxRecDepth 100000

theorem cellsOf_elem : Tryz.prog.cellsOf 36 = 2 := by kernel_rfl
theorem cellsOf_u64 : Tryz.prog.cellsOf 25 = 1 := by kernel_rfl

section
variable {H : Type} {enc : TypeId × Value → H} {W : World} {base : Nat} {sp : Nat → Bool} {hd : Bool}

theorem wf_u64 {n : Int} (h : (Lit.int .u64 n).wf = true) : 0 ≤ n ∧ n ≤ 18446744073709551615 := by
 simpa [Lit.wf, IntKind.min, IntKind.max, IntKind.signed, IntKind.bits] using h

theorem trod_elem {fuel : Nat} {cs : List Value} {x : DataW H × List MemPlace} (h : DataW.trod enc Tryz.prog W base sp hd fuel 36 cs = some x) :
  ∃ e : E, cs = [.int .u64 e.1, .int .u64 e.2] ∧ okE e := by
 obtain ⟨xs, m, _, _, hlen, hxl, hg⟩ := DataW.trod_array Tryz.underlying36 h
 rw [cellsOf_elem] at hlen
 rw [cellsOf_u64] at hg
 match cs, hlen with
 | [c0, c1], _ =>
  match xs, hxl with
  | [y0, y1], _ =>
   have h0 := hg 0 (by omega)
   have h1 := hg 1 (by omega)
   simp at h0 h1
   obtain ⟨n0, e0, _, w0⟩ := DataW.trod_int Tryz.underlying25 h0
   obtain ⟨n1, e1, _, w1⟩ := DataW.trod_int Tryz.underlying25 h1
   simp only [List.cons.injEq, and_true] at e0 e1
   subst e0
   subst e1
   obtain ⟨a0, a1⟩ := wf_u64 w0
   obtain ⟨b0, b1⟩ := wf_u64 w1
   exact ⟨(n0, n1), rfl, a0, a1, b0, b1⟩

end

end Go.Proofs.YtfbfbijkkbflkaaGreatDoor

namespace Go.Proofs.YtfbfbijkkbflkaaGreatDoor
open Go.RowKit Fm
set_option linter.unusedVariables false
set_option maxRecDepth 100000

/-! ### the plain law: differences in a field -/
/-! ### Awake -/
theorem BlkE.new (w : World) (xs : List E) (cs : Array Value) (h : cs = (cellsE xs).toArray) : BlkE (w.alloc (.cells cs 36)) w.heap.size xs := by
 subst h
 exact heap_alloc_new w _

/-! ### the law -/
theorem SlE.later {w w' : World} {v : Value} {xs : List E} (h : SlE w w.heap.size v xs) (hb : Below w.heap.size w w') : SlE w' w'.heap.size v xs := (h.below hb).mono hb.size
end Go.Proofs.YtfbfbijkkbflkaaGreatDoor

namespace Go.Proofs.YtfbfbijkkbflkaaGreatDoor
open Go.RowKit Fm
set_option linter.unusedVariables false
set_option maxRecDepth 100000

theorem load_gadget {w : World} {b : Nat} {x y z : Value} (h : Vs w b [x, y, z]) : (loadVar 54 ⟨b, 0, none⟩).run Tryz.prog w = .ok (.agg #[x, y, z]) w := by
 obtain ⟨c0, c1, c2, _⟩ := h.get3
 simp [loadVar, go_sem, c0, c1, c2]
theorem results_gadget {fn : Func} {p : Tmp} {tmps : Array Value} {w : World} {b : Nat} {x y z : Value} (hv : Vs w b [x, y, z]) (h : fn.results = #[.cell p 54]) (hp : tmps.getD p undef = .pointer (some ⟨b, 0, none⟩)) :
  (results fn tmps).run Tryz.prog w = .ok (.agg #[x, y, z]) w := by
 have hl := load_gadget hv
 rw [Array.getD_eq_getD_getElem?] at hp
 simp only [results, h]
 simp [asAddr, hp, hl]

theorem Vs.set3 {w : World} {b : Nat} {x y z : Value} (h : Vs w b [x, y, z]) (p q r : Value) : Vs (((w.setCell ⟨b, 0, none⟩ p).setCell ⟨b, 1, none⟩ q).setCell ⟨b, 2, none⟩ r) b [p, q, r] :=
 ((h.put 0 (by simp) p).put 1 (by simp) q).put 2 (by simp) r
theorem bl_st3 {B b : Nat} {a w : World} (h : Below B a w) (hp : B ≤ b) (x y z : Value) : Below B a (((w.setCell ⟨b, 0, none⟩ x).setCell ⟨b, 1, none⟩ y).setCell ⟨b, 2, none⟩ z) := bl_set (bl_set (bl_set h hp x) hp y) hp z
theorem Vs.belowB {w w' : World} {b B : Nat} {cs : List Value} (h : Vs w b cs) (hb : Below B w w') (hB : b < B) : Vs w' b cs :=
 ⟨fun i v hi => (hb.cell (p := ⟨b, i, none⟩) hB).trans (h.cell i v hi), fun i hi => (hb.frozen (p := ⟨b, i, none⟩) hB).trans (h.frz i hi), Nat.lt_of_lt_of_le h.lt hb.size⟩
theorem own_call {w w' : World} {base : Nat} {e : TypeId} {size : Nat} {v : Value} {n : Nat} {xs : List Value} (h : w.ownsRow base e size v n xs) (hb : Below w.heap.size w w') : w'.ownsRow base e size v n xs := by
 refine ⟨h.1, ?_⟩
 rcases h.2 with h | ⟨g, cap, cur, h1, h2, h3, h4⟩
 ·exact .inl h
 ·have hlt : g < w.heap.size := (Array.getElem?_eq_some_iff.1 h3).1
  exact .inr ⟨g, cap, cur, h1, h2, (hb.block g hlt).trans h3, h4⟩

theorem own_slice {w : World} {base : Nat} {e : TypeId} {size : Nat} {v : Value} {n : Nat} {xs : List Value} (h : w.ownsRow base e size v (n + 1) xs) : ∃ g cap, v = .slice (some ⟨g, 0, none⟩) (n + 1) cap := by
 rcases h.2 with h | ⟨g, cap, cur, h1, _⟩
 ·omega
 ·exact ⟨g, cap, h1⟩

def RetG {f : Nat} (g : Gad f) (w : World) (e : Ending) (w' : World) : Prop :=
 ∃ (k : Int) (sl : Value) (n : Int), e = .returned (.agg #[.int .u8 k, sl, .int .i64 n]) ∧ RepG w' w'.heap.size k sl n g ∧ Below w.heap.size w w'

theorem BlkE.slK {f : Nat} {w : World} {g : Nat} {l : KL f} (h : BlkE w g (esK l)) (hn : l.length ≤ 9223372036854775807) {B : Nat} (hB : g < B) : SlK w B (.slice (some ⟨g, 0, none⟩) l.length l.length) l := by
 have := (h.sl (by rw [esK_length]; exact hn) (esK_ok l) hB).toK
 rwa [esK_length] at this

section
variable {f : Nat} (hf : IsF f)
include hf

set_option maxHeartbeats 4000000 in
theorem gadget_Bit (w : World) : Calls Tryz.prog 70 #[.int .u8 f] w (RetG (.eval [0, -1, 1] : Gad f) w) := by
 go_enter Tryz.func70, Tryz.ntmps70
 go_upto_region 1 with fail
 have hr := Vs.new w [.int .u8 0, .slice none 0 0, .int .i64 0] #[.int .u8 0, .slice none 0 0, .int .i64 0] 54 rfl
 have hb00 : Below w.heap.size w (w.alloc (.cells #[.int .u8 0, .slice none 0 0, .int .i64 0] 54)) := by repeat (first | exact bA | with_reducible assumption | apply bB | (refine bC ?_ (by dsimp only; omega)) | apply bD | apply bE | (refine bF ?_ (by assumption)))
 generalize w.alloc (.cells #[.int .u8 0, .slice none 0 0, .int .i64 0] 54) = w1 at hr hb00 ⊢
 have H1 := Lib.hid (field_One hf)
 have H2 := Lib.hid (field_NegK hf (1 : Fin (Pm f)))
 have hmark : True := trivial
 obtain ⟨a0, a1, a2, a3, a4, a5, a6⟩ := hr.get3
 go_wp2_with (first
  | (go_at_call 49; refine (H1.out _).mono ?_; rintro e w2 ⟨rfl, hb2⟩; replace hr := hr.call hb2; replace hb00 := bl_call hb00 (Nat.le_refl _) hb2; obtain ⟨a0, a1, a2, a3, a4, a5, a6⟩ := hr.get3)
  | (go_at_call 104; refine (H2.out _).mono ?_; rintro e w2 ⟨rfl, hb2⟩; replace hr := hr.call hb2; replace hb00 := bl_call hb00 (Nat.le_refl _) hb2; obtain ⟨a0, a1, a2, a3, a4, a5, a6⟩ := hr.get3))
 have hne : w.heap.size < w2.heap.size := hr.lt
 have hrw := Vs.set3 hr (.int .u8 2) (.slice (some ⟨w2.heap.size, 0, none⟩) 3 3) (.int .i64 0)
 have hbw := bl_st3 hb00 (Nat.le_refl _) (.int .u8 2) (.slice (some ⟨w2.heap.size, 0, none⟩) 3 3) (.int .i64 0)
 have hsz : (((w2.setCell ⟨w.heap.size, 0, none⟩ (.int .u8 2)).setCell ⟨w.heap.size, 1, none⟩ (.slice (some ⟨w2.heap.size, 0, none⟩) 3 3)).setCell ⟨w.heap.size, 2, none⟩ (.int .i64 0)).heap.size = w2.heap.size := by simp [World.setCell]
 generalize ((w2.setCell ⟨w.heap.size, 0, none⟩ (.int .u8 2)).setCell ⟨w.heap.size, 1, none⟩ (.slice (some ⟨w2.heap.size, 0, none⟩) 3 3)).setCell ⟨w.heap.size, 2, none⟩ (.int .i64 0) = w4 at hrw hbw hsz ⊢
 have hB : BlkE (w4.alloc (.cells #[.int .u64 0, .int .u64 0, .int .u64 (lo (-(1 : Fin (Pm f)))), .int .u64 (hi (-(1 : Fin (Pm f)))), .int .u64 (lo (1 : Fin (Pm f))), .int .u64 (hi (1 : Fin (Pm f)))] 36)) w4.heap.size (esK [0, -1, 1] : List E) :=
  BlkE.new w4 _ _ (by
   show _ = (Value.int .u64 (lo (0 : Fin (Pm f))) :: .int .u64 (hi (0 : Fin (Pm f))) :: _).toArray
   rw [lo_zero, hi_zero]
   rfl)
 rw [hsz] at hB
 refine bodyPost_ret (results_gadget (b := w.heap.size) (hrw.alloc _) rfl rfl) rfl ⟨2, _, 0, rfl, ⟨rfl, rfl, hB.slK (by simp) hB.lt, ⟨2, 1, rfl, rfl, k_one_ne, by omega, by omega⟩⟩, by repeat (first | exact bA | with_reducible assumption | apply bB | (refine bC ?_ (by dsimp only; omega)) | apply bD | apply bE | (refine bF ?_ (by assumption)))⟩

end

end Go.Proofs.YtfbfbijkkbflkaaGreatDoor

namespace Go.Proofs.YtfbfbijkkbflkaaGreatDoor
open Go.RowKit Fm
set_option linter.unusedVariables false
set_option maxRecDepth 100000

def RetI (n : Nat) (w : World) (e : Ending) (w' : World) : Prop := e = .returned (.int .i64 (n : Int)) ∧ Below w.heap.size w w'

theorem val_count (f : Nat) : CK.count.val f = .agg #[.int .u8 1, .int .u8 f, .int .i64 0, .int .i64 0, .int .i64 0, .int .i64 0] := rfl
theorem val_sum (f b : Nat) : (CK.sum b).val f = .agg #[.int .u8 2, .int .u8 f, .int .i64 b, .int .i64 0, .int .i64 0, .int .i64 0] := rfl
theorem val_vec (f b l c : Nat) : (CK.vec b l c).val f = .agg #[.int .u8 3, .int .u8 f, .int .i64 b, .int .i64 l, .int .i64 0, .int .i64 c] := rfl
theorem val_hist (f l c : Nat) : (CK.hist l c).val f = .agg #[.int .u8 4, .int .u8 f, .int .i64 0, .int .i64 l, .int .i64 0, .int .i64 c] := rfl
theorem val_multi (f l m c : Nat) : (CK.multi l m c).val f = .agg #[.int .u8 5, .int .u8 f, .int .i64 0, .int .i64 l, .int .i64 m, .int .i64 c] := rfl

theorem circuit_within (n most : Int) (u : Bool) (w : World) : Calls Tryz.prog 95 #[.int .i64 n, .int .i64 most, .bool u] w fun e w' => e = .returned (.bool (usedB n most u)) ∧ w = w' := by
 cases u
 ·rw [usedB_no]
  go_enter Tryz.func95, Tryz.ntmps95
  go_wp2
  go_ret
  exact ⟨rfl, rfl⟩
 ·rw [usedB_yes]
  by_cases h1 : 1 ≤ n
  ·have hd : decide (1 ≤ n) = true := decide_eq_true h1
   rw [hd, Bool.true_and]
   go_enter Tryz.func95, Tryz.ntmps95
   go_wp2
   go_ret
   exact ⟨rfl, rfl⟩
  ·have hd : decide (1 ≤ n) = false := decide_eq_false h1
   rw [hd, Bool.false_and]
   go_enter Tryz.func95, Tryz.ntmps95
   go_wp2
   go_ret
   exact ⟨rfl, rfl⟩

theorem circuit_weightBits (k f b l c : Int) (m : Nat) (h1 : m ≤ 64) (w : World) :
  Calls Tryz.prog 89 #[.agg #[.int .u8 k, .int .u8 f, .int .i64 b, .int .i64 l, .int .i64 m, .int .i64 c]] w (RetI (Lib.bitLen m) w) := by
 have HL : Hid (∀ wz, Calls Tryz.prog 122 #[.int .u64 (m : Int)] wz fun e w' => e = .returned (.int .i64 (Lib.bitLen m)) ∧ w' = wz) := by
  intro wz
  have h := bits_Len (m : Int) wz (by omega) (by omega)
  rwa [Int.toNat_natCast] at h
 have hmx : max (m : Int) 0 = (m : Int) := by omega
 go_enter Tryz.func89, Tryz.ntmps89
 go_wp2_with (go_at_call 122; refine (HL.out _).mono ?_; rintro e w2 ⟨rfl, rfl⟩)
 go_ret
 exact ⟨rfl, by repeat (first | exact bA | with_reducible assumption | apply bB | (refine bC ?_ (by dsimp only; omega)) | apply bD | apply bE | (refine bF ?_ (by assumption)))⟩

set_option maxHeartbeats 1000000 in
theorem circuit_In (f : Nat) (y : CK) (hy : y.ok) (w : World) : Calls Tryz.prog 42 #[y.val f] w (RetI y.nin w) := by
 cases y with
 | count =>
  rw [val_count]
  go_enter Tryz.func42, Tryz.ntmps42
  go_wp2
  go_ret
  exact ⟨rfl, by repeat (first | exact bA | with_reducible assumption | apply bB | (refine bC ?_ (by dsimp only; omega)) | apply bD | apply bE | (refine bF ?_ (by assumption)))⟩
 | sum b =>
  rw [val_sum]
  go_enter Tryz.func42, Tryz.ntmps42
  go_wp2
  go_ret
  exact ⟨rfl, by repeat (first | exact bA | with_reducible assumption | apply bB | (refine bC ?_ (by dsimp only; omega)) | apply bD | apply bE | (refine bF ?_ (by assumption)))⟩
 | vec b l c =>
  rw [val_vec]
  have hle := CK.nin_le hy
  rw [show (CK.vec b l c).nin = l * b from rfl] at hle ⊢
  have hmul : (l : Int) * (b : Int) = ((l * b : Nat) : Int) := (Int.natCast_mul l b).symm
  generalize l * b = n at *
  clear hy
  go_enter Tryz.func42, Tryz.ntmps42
  go_wp2
  go_ret
  refine ⟨ret_int ?_, by repeat (first | exact bA | with_reducible assumption | apply bB | (refine bC ?_ (by dsimp only; omega)) | apply bD | apply bE | (refine bF ?_ (by assumption)))⟩
  first
   | rfl
   | omega
   | (rw [hmul]; exact IntWalk.i64_in _ (by omega))
 | hist l c =>
  rw [val_hist]
  go_enter Tryz.func42, Tryz.ntmps42
  go_wp2
  go_ret
  exact ⟨rfl, by repeat (first | exact bA | with_reducible assumption | apply bB | (refine bC ?_ (by dsimp only; omega)) | apply bD | apply bE | (refine bF ?_ (by assumption)))⟩
 | multi l m c =>
  rw [val_multi]
  obtain ⟨⟨hl1, hl2⟩, ⟨hm1, hm2⟩, hc⟩ := hy
  have HW := Lib.hid (fun wz => circuit_weightBits 5 f 0 l c m (by omega) wz)
  have hb7 := (bitLen_small m (by omega)).1
  rw [show (CK.multi l m c).nin = l + Lib.bitLen m from rfl]
  generalize Lib.bitLen m = q at *
  have hw1 : IntKind.i64.wrap ((l : Int) + (q : Int)) = (l : Int) + (q : Int) := IntWalk.i64_in _ (by omega)
  have hb00 : Below w.heap.size w w := Below.refl _ _
  go_enter Tryz.func42, Tryz.ntmps42
  go_upto_region 11 with fail
  have hx := Vs.new w [.int .u8 5, .int .u8 f, .int .i64 0, .int .i64 l, .int .i64 m, .int .i64 c] #[.int .u8 5, .int .u8 f, .int .i64 0, .int .i64 l, .int .i64 m, .int .i64 c] 30 rfl
  have hbA : Below w.heap.size w (w.alloc (.cells #[.int .u8 5, .int .u8 f, .int .i64 0, .int .i64 l, .int .i64 m, .int .i64 c] 30)) := by repeat (first | exact bA | with_reducible assumption | apply bB)
  replace hb00 := bl_call hb00 (Nat.le_refl _) hbA
  clear hbA
  generalize w.alloc (.cells #[.int .u8 5, .int .u8 f, .int .i64 0, .int .i64 l, .int .i64 m, .int .i64 c] 30) = w1 at hb00 hx ⊢
  obtain ⟨⟨x0, x1, x2, x3, x4, x5⟩, ⟨x6, x7, x8, x9, x10, x11⟩, x12⟩ := hx.get6
  refine region_B (n := 5) (m := 6) (f := 5) (by kernel_rfl) (by kernel_rfl) rfl ?_
  refine WpH.takeB (i := 0) (v := ?_) rfl (by kernel_rfl) (fun _ _ _ h => h) (.val rfl (fun wz hwz => ?_)) ?_
  rotate_left
  ·go_simp; try (with_reducible rfl)
  (simp only [Act.put]); (try simp only [List.setIfInBounds_toArray]); (try simp only [List.set_cons_succ]); (try simp only [List.set_cons_zero])
  refine WpH.takeB (i := 1) (v := ?_) rfl (by kernel_rfl) (fun _ _ _ h => h) (.val rfl (fun wz hwz => ?_)) ?_
  rotate_left
  ·(obtain ⟨hcz, hfz⟩ := bcell hwz; go_simp; try (with_reducible rfl))
  (simp only [Act.put]); (try simp only [List.setIfInBounds_toArray]); (try simp only [List.set_cons_succ]); (try simp only [List.set_cons_zero])
  refine WpH.takeB (i := 2) (v := ?_) rfl (by kernel_rfl) (fun _ _ _ h => h) (.val rfl (fun wz hwz => ?_)) ?_
  rotate_left
  ·(obtain ⟨hcz, hfz⟩ := bcell hwz; go_simp; try (with_reducible rfl))
  (simp only [Act.put]); (try simp only [List.setIfInBounds_toArray]); (try simp only [List.set_cons_succ]); (try simp only [List.set_cons_zero])
  refine WpH.takeB (i := 3) rfl (by kernel_rfl) (fun _ _ _ h => h) (.call rfl (fun wz hwz => HW.out wz) (fun wz hwz => ?_)) ?_
  ·go_simp; try (with_reducible rfl)
  (simp only [Act.put]); (try simp only [List.setIfInBounds_toArray]); (try simp only [List.set_cons_succ]); (try simp only [List.set_cons_zero])
  refine WpH.takeB (i := 4) (v := ?_) rfl (by kernel_rfl) (fun _ _ _ h => h) (.val rfl (fun wz hwz => ?_)) ?_
  rotate_left
  ·go_simp; try (with_reducible rfl)
  (simp only [Act.put]); (try simp only [List.setIfInBounds_toArray]); (try simp only [List.set_cons_succ]); (try simp only [List.set_cons_zero])
  refine WpH.doneB (by kernel_rfl) (fun w2 hw2 => ?_)
  (try simp only [List.drop_succ_cons]); (try simp only [List.drop_zero]); (try simp only [Nat.reduceSub]); (try simp only [List.take_succ_cons]); (try simp only [List.take_zero])
  replace hb00 := bl_call hb00 (Nat.le_refl _) hw2
  replace hx := hx.call hw2
  go_wp2_with fail
  go_ret
  exact ⟨ret_int (by omega), by repeat (first | exact bA | with_reducible assumption | apply bB | (refine bC ?_ (by dsimp only; omega)) | apply bD | apply bE | (refine bF ?_ (by assumption)))⟩

set_option maxHeartbeats 1000000 in
theorem circuit_Calls_chunk (k f b l m : Int) (c n : Nat) (hk : k = 3 ∨ k = 4 ∨ k = 5) (hc1 : 1 ≤ c) (hc2 : c ≤ 16) (hn : n ≤ 2048) (w : World)
  (hI : ∀ wz, Calls Tryz.prog 42 #[.agg #[.int .u8 k, .int .u8 f, .int .i64 b, .int .i64 l, .int .i64 m, .int .i64 c]] wz (RetI n wz)) :
  Calls Tryz.prog 16 #[.agg #[.int .u8 k, .int .u8 f, .int .i64 b, .int .i64 l, .int .i64 m, .int .i64 c]] w (RetI ((n + c - 1) / c) w) := by
 have HI := Lib.hid hI
 clear hI
 have hc0 : ((c : Int) == 0) = false := by simp; omega
 have hc9 : ¬ (c = 0) := by omega
 have hd : decide ((0 : Int) < (c : Int)) = true := decide_eq_true (by omega)
 have hw1 : IntKind.i64.wrap ((n : Int) + (c : Int)) = (n : Int) + (c : Int) := IntWalk.i64_in _ (by omega)
 have hw2 : IntKind.i64.wrap ((n : Int) + (c : Int) - 1) = (n : Int) + (c : Int) - 1 := IntWalk.i64_in _ (by omega)
 have hq : ((n : Int) + (c : Int) - 1).tdiv (c : Int) = (((n + c - 1) / c : Nat) : Int) := by
  rw [show (n : Int) + (c : Int) - 1 = ((n + c - 1 : Nat) : Int) by omega]
  rw [Int.tdiv_eq_ediv_of_nonneg (by omega)]
  rfl
 have hq2 : ((n + c - 1) / c : Nat) ≤ 2048 := Nat.le_trans (ceil_le hc1) hn
 generalize (n + c - 1) / c = q at *
 have hw3 : IntKind.i64.wrap (q : Int) = (q : Int) := IntWalk.i64_in _ (by omega)
 have hb00 : Below w.heap.size w w := Below.refl _ _
 rcases hk with rfl | rfl | rfl
 all_goals
  go_enter Tryz.func16, Tryz.ntmps16
  go_upto_region 10 with fail
 ·skip
  have hx := Vs.new w [.int .u8 3, .int .u8 f, .int .i64 b, .int .i64 l, .int .i64 m, .int .i64 c] #[.int .u8 3, .int .u8 f, .int .i64 b, .int .i64 l, .int .i64 m, .int .i64 c] 30 rfl
  have hbA : Below w.heap.size w (w.alloc (.cells #[.int .u8 3, .int .u8 f, .int .i64 b, .int .i64 l, .int .i64 m, .int .i64 c] 30)) := by repeat (first | exact bA | with_reducible assumption | apply bB)
  replace hb00 := bl_call hb00 (Nat.le_refl _) hbA
  clear hbA
  generalize w.alloc (.cells #[.int .u8 3, .int .u8 f, .int .i64 b, .int .i64 l, .int .i64 m, .int .i64 c] 30) = w1 at hb00 hx ⊢
  obtain ⟨⟨x0, x1, x2, x3, x4, x5⟩, ⟨x6, x7, x8, x9, x10, x11⟩, x12⟩ := hx.get6
  refine region_B (n := 9) (m := 10) (f := 9) (by kernel_rfl) (by kernel_rfl) rfl ?_
  refine WpH.takeB (i := 0) (v := ?_) rfl (by kernel_rfl) (fun _ _ _ h => h) (.val rfl (fun wz hwz => ?_)) ?_
  rotate_left
  ·(obtain ⟨hcz, hfz⟩ := bcell hwz; go_simp; try (with_reducible rfl))
  (simp only [Act.put]); (try simp only [List.setIfInBounds_toArray]); (try simp only [List.set_cons_succ]); (try simp only [List.set_cons_zero])
  refine WpH.takeB (i := 1) rfl (by kernel_rfl) (fun _ _ _ h => h) (.call rfl (fun wz hwz => HI.out wz) (fun wz hwz => ?_)) ?_
  ·go_simp; try (with_reducible rfl)
  (simp only [Act.put]); (try simp only [List.setIfInBounds_toArray]); (try simp only [List.set_cons_succ]); (try simp only [List.set_cons_zero])
  refine WpH.takeB (i := 2) (v := ?_) rfl (by kernel_rfl) (fun _ _ _ h => h) (.val rfl (fun wz hwz => ?_)) ?_
  rotate_left
  ·go_simp; try (with_reducible rfl)
  (simp only [Act.put]); (try simp only [List.setIfInBounds_toArray]); (try simp only [List.set_cons_succ]); (try simp only [List.set_cons_zero])
  refine WpH.takeB (i := 3) (v := ?_) rfl (by kernel_rfl) (fun _ _ _ h => h) (.val rfl (fun wz hwz => ?_)) ?_
  rotate_left
  ·(obtain ⟨hcz, hfz⟩ := bcell hwz; go_simp; try (with_reducible rfl))
  (simp only [Act.put]); (try simp only [List.setIfInBounds_toArray]); (try simp only [List.set_cons_succ]); (try simp only [List.set_cons_zero])
  refine WpH.takeB (i := 4) (v := ?_) rfl (by kernel_rfl) (fun _ _ _ h => h) (.val rfl (fun wz hwz => ?_)) ?_
  rotate_left
  ·go_simp; try (with_reducible rfl)
  (simp only [Act.put]); (try simp only [List.setIfInBounds_toArray]); (try simp only [List.set_cons_succ]); (try simp only [List.set_cons_zero])
  refine WpH.takeB (i := 5) (v := ?_) rfl (by kernel_rfl) (fun _ _ _ h => h) (.val rfl (fun wz hwz => ?_)) ?_
  rotate_left
  ·go_simp; try (with_reducible rfl)
  (simp only [Act.put]); (try simp only [List.setIfInBounds_toArray]); (try simp only [List.set_cons_succ]); (try simp only [List.set_cons_zero])
  refine WpH.takeB (i := 6) (v := ?_) rfl (by kernel_rfl) (fun _ _ _ h => h) (.val rfl (fun wz hwz => ?_)) ?_
  rotate_left
  ·go_simp; try (with_reducible rfl)
  (simp only [Act.put]); (try simp only [List.setIfInBounds_toArray]); (try simp only [List.set_cons_succ]); (try simp only [List.set_cons_zero])
  refine WpH.takeB (i := 7) (v := ?_) rfl (by kernel_rfl) (fun _ _ _ h => h) (.val rfl (fun wz hwz => ?_)) ?_
  rotate_left
  ·(obtain ⟨hcz, hfz⟩ := bcell hwz; go_simp; try (with_reducible rfl))
  (simp only [Act.put]); (try simp only [List.setIfInBounds_toArray]); (try simp only [List.set_cons_succ]); (try simp only [List.set_cons_zero])
  refine WpH.takeB (i := 8) (v := ?_) rfl (by kernel_rfl) (fun _ _ _ h => h) (.val rfl (fun wz hwz => ?_)) ?_
  rotate_left
  ·go_simp; try (with_reducible rfl)
  (simp only [Act.put]); (try simp only [List.setIfInBounds_toArray]); (try simp only [List.set_cons_succ]); (try simp only [List.set_cons_zero])
  refine WpH.doneB (by kernel_rfl) (fun w2 hw2 => ?_)
  (try simp only [List.drop_succ_cons]); (try simp only [List.drop_zero]); (try simp only [Nat.reduceSub]); (try simp only [List.take_succ_cons]); (try simp only [List.take_zero])
  replace hb00 := bl_call hb00 (Nat.le_refl _) hw2
  replace hx := hx.call hw2
  go_wp2_with fail
  go_ret
  exact ⟨rfl, by repeat (first | exact bA | with_reducible assumption | apply bB | (refine bC ?_ (by dsimp only; omega)) | apply bD | apply bE | (refine bF ?_ (by assumption)))⟩
 ·skip
  have hx := Vs.new w [.int .u8 4, .int .u8 f, .int .i64 b, .int .i64 l, .int .i64 m, .int .i64 c] #[.int .u8 4, .int .u8 f, .int .i64 b, .int .i64 l, .int .i64 m, .int .i64 c] 30 rfl
  have hbA : Below w.heap.size w (w.alloc (.cells #[.int .u8 4, .int .u8 f, .int .i64 b, .int .i64 l, .int .i64 m, .int .i64 c] 30)) := by repeat (first | exact bA | with_reducible assumption | apply bB)
  replace hb00 := bl_call hb00 (Nat.le_refl _) hbA
  clear hbA
  generalize w.alloc (.cells #[.int .u8 4, .int .u8 f, .int .i64 b, .int .i64 l, .int .i64 m, .int .i64 c] 30) = w1 at hb00 hx ⊢
  obtain ⟨⟨x0, x1, x2, x3, x4, x5⟩, ⟨x6, x7, x8, x9, x10, x11⟩, x12⟩ := hx.get6
  refine region_B (n := 9) (m := 10) (f := 9) (by kernel_rfl) (by kernel_rfl) rfl ?_
  refine WpH.takeB (i := 0) (v := ?_) rfl (by kernel_rfl) (fun _ _ _ h => h) (.val rfl (fun wz hwz => ?_)) ?_
  rotate_left
  ·(obtain ⟨hcz, hfz⟩ := bcell hwz; go_simp; try (with_reducible rfl))
  (simp only [Act.put]); (try simp only [List.setIfInBounds_toArray]); (try simp only [List.set_cons_succ]); (try simp only [List.set_cons_zero])
  refine WpH.takeB (i := 1) rfl (by kernel_rfl) (fun _ _ _ h => h) (.call rfl (fun wz hwz => HI.out wz) (fun wz hwz => ?_)) ?_
  ·go_simp; try (with_reducible rfl)
  (simp only [Act.put]); (try simp only [List.setIfInBounds_toArray]); (try simp only [List.set_cons_succ]); (try simp only [List.set_cons_zero])
  refine WpH.takeB (i := 2) (v := ?_) rfl (by kernel_rfl) (fun _ _ _ h => h) (.val rfl (fun wz hwz => ?_)) ?_
  rotate_left
  ·go_simp; try (with_reducible rfl)
  (simp only [Act.put]); (try simp only [List.setIfInBounds_toArray]); (try simp only [List.set_cons_succ]); (try simp only [List.set_cons_zero])
  refine WpH.takeB (i := 3) (v := ?_) rfl (by kernel_rfl) (fun _ _ _ h => h) (.val rfl (fun wz hwz => ?_)) ?_
  rotate_left
  ·(obtain ⟨hcz, hfz⟩ := bcell hwz; go_simp; try (with_reducible rfl))
  (simp only [Act.put]); (try simp only [List.setIfInBounds_toArray]); (try simp only [List.set_cons_succ]); (try simp only [List.set_cons_zero])
  refine WpH.takeB (i := 4) (v := ?_) rfl (by kernel_rfl) (fun _ _ _ h => h) (.val rfl (fun wz hwz => ?_)) ?_
  rotate_left
  ·go_simp; try (with_reducible rfl)
  (simp only [Act.put]); (try simp only [List.setIfInBounds_toArray]); (try simp only [List.set_cons_succ]); (try simp only [List.set_cons_zero])
  refine WpH.takeB (i := 5) (v := ?_) rfl (by kernel_rfl) (fun _ _ _ h => h) (.val rfl (fun wz hwz => ?_)) ?_
  rotate_left
  ·go_simp; try (with_reducible rfl)
  (simp only [Act.put]); (try simp only [List.setIfInBounds_toArray]); (try simp only [List.set_cons_succ]); (try simp only [List.set_cons_zero])
  refine WpH.takeB (i := 6) (v := ?_) rfl (by kernel_rfl) (fun _ _ _ h => h) (.val rfl (fun wz hwz => ?_)) ?_
  rotate_left
  ·go_simp; try (with_reducible rfl)
  (simp only [Act.put]); (try simp only [List.setIfInBounds_toArray]); (try simp only [List.set_cons_succ]); (try simp only [List.set_cons_zero])
  refine WpH.takeB (i := 7) (v := ?_) rfl (by kernel_rfl) (fun _ _ _ h => h) (.val rfl (fun wz hwz => ?_)) ?_
  rotate_left
  ·(obtain ⟨hcz, hfz⟩ := bcell hwz; go_simp; try (with_reducible rfl))
  (simp only [Act.put]); (try simp only [List.setIfInBounds_toArray]); (try simp only [List.set_cons_succ]); (try simp only [List.set_cons_zero])
  refine WpH.takeB (i := 8) (v := ?_) rfl (by kernel_rfl) (fun _ _ _ h => h) (.val rfl (fun wz hwz => ?_)) ?_
  rotate_left
  ·go_simp; try (with_reducible rfl)
  (simp only [Act.put]); (try simp only [List.setIfInBounds_toArray]); (try simp only [List.set_cons_succ]); (try simp only [List.set_cons_zero])
  refine WpH.doneB (by kernel_rfl) (fun w2 hw2 => ?_)
  (try simp only [List.drop_succ_cons]); (try simp only [List.drop_zero]); (try simp only [Nat.reduceSub]); (try simp only [List.take_succ_cons]); (try simp only [List.take_zero])
  replace hb00 := bl_call hb00 (Nat.le_refl _) hw2
  replace hx := hx.call hw2
  go_wp2_with fail
  go_ret
  exact ⟨rfl, by repeat (first | exact bA | with_reducible assumption | apply bB | (refine bC ?_ (by dsimp only; omega)) | apply bD | apply bE | (refine bF ?_ (by assumption)))⟩
 ·skip
  have hx := Vs.new w [.int .u8 5, .int .u8 f, .int .i64 b, .int .i64 l, .int .i64 m, .int .i64 c] #[.int .u8 5, .int .u8 f, .int .i64 b, .int .i64 l, .int .i64 m, .int .i64 c] 30 rfl
  have hbA : Below w.heap.size w (w.alloc (.cells #[.int .u8 5, .int .u8 f, .int .i64 b, .int .i64 l, .int .i64 m, .int .i64 c] 30)) := by repeat (first | exact bA | with_reducible assumption | apply bB)
  replace hb00 := bl_call hb00 (Nat.le_refl _) hbA
  clear hbA
  generalize w.alloc (.cells #[.int .u8 5, .int .u8 f, .int .i64 b, .int .i64 l, .int .i64 m, .int .i64 c] 30) = w1 at hb00 hx ⊢
  obtain ⟨⟨x0, x1, x2, x3, x4, x5⟩, ⟨x6, x7, x8, x9, x10, x11⟩, x12⟩ := hx.get6
  refine region_B (n := 9) (m := 10) (f := 9) (by kernel_rfl) (by kernel_rfl) rfl ?_
  refine WpH.takeB (i := 0) (v := ?_) rfl (by kernel_rfl) (fun _ _ _ h => h) (.val rfl (fun wz hwz => ?_)) ?_
  rotate_left
  ·(obtain ⟨hcz, hfz⟩ := bcell hwz; go_simp; try (with_reducible rfl))
  (simp only [Act.put]); (try simp only [List.setIfInBounds_toArray]); (try simp only [List.set_cons_succ]); (try simp only [List.set_cons_zero])
  refine WpH.takeB (i := 1) rfl (by kernel_rfl) (fun _ _ _ h => h) (.call rfl (fun wz hwz => HI.out wz) (fun wz hwz => ?_)) ?_
  ·go_simp; try (with_reducible rfl)
  (simp only [Act.put]); (try simp only [List.setIfInBounds_toArray]); (try simp only [List.set_cons_succ]); (try simp only [List.set_cons_zero])
  refine WpH.takeB (i := 2) (v := ?_) rfl (by kernel_rfl) (fun _ _ _ h => h) (.val rfl (fun wz hwz => ?_)) ?_
  rotate_left
  ·go_simp; try (with_reducible rfl)
  (simp only [Act.put]); (try simp only [List.setIfInBounds_toArray]); (try simp only [List.set_cons_succ]); (try simp only [List.set_cons_zero])
  refine WpH.takeB (i := 3) (v := ?_) rfl (by kernel_rfl) (fun _ _ _ h => h) (.val rfl (fun wz hwz => ?_)) ?_
  rotate_left
  ·(obtain ⟨hcz, hfz⟩ := bcell hwz; go_simp; try (with_reducible rfl))
  (simp only [Act.put]); (try simp only [List.setIfInBounds_toArray]); (try simp only [List.set_cons_succ]); (try simp only [List.set_cons_zero])
  refine WpH.takeB (i := 4) (v := ?_) rfl (by kernel_rfl) (fun _ _ _ h => h) (.val rfl (fun wz hwz => ?_)) ?_
  rotate_left
  ·go_simp; try (with_reducible rfl)
  (simp only [Act.put]); (try simp only [List.setIfInBounds_toArray]); (try simp only [List.set_cons_succ]); (try simp only [List.set_cons_zero])
  refine WpH.takeB (i := 5) (v := ?_) rfl (by kernel_rfl) (fun _ _ _ h => h) (.val rfl (fun wz hwz => ?_)) ?_
  rotate_left
  ·go_simp; try (with_reducible rfl)
  (simp only [Act.put]); (try simp only [List.setIfInBounds_toArray]); (try simp only [List.set_cons_succ]); (try simp only [List.set_cons_zero])
  refine WpH.takeB (i := 6) (v := ?_) rfl (by kernel_rfl) (fun _ _ _ h => h) (.val rfl (fun wz hwz => ?_)) ?_
  rotate_left
  ·go_simp; try (with_reducible rfl)
  (simp only [Act.put]); (try simp only [List.setIfInBounds_toArray]); (try simp only [List.set_cons_succ]); (try simp only [List.set_cons_zero])
  refine WpH.takeB (i := 7) (v := ?_) rfl (by kernel_rfl) (fun _ _ _ h => h) (.val rfl (fun wz hwz => ?_)) ?_
  rotate_left
  ·(obtain ⟨hcz, hfz⟩ := bcell hwz; go_simp; try (with_reducible rfl))
  (simp only [Act.put]); (try simp only [List.setIfInBounds_toArray]); (try simp only [List.set_cons_succ]); (try simp only [List.set_cons_zero])
  refine WpH.takeB (i := 8) (v := ?_) rfl (by kernel_rfl) (fun _ _ _ h => h) (.val rfl (fun wz hwz => ?_)) ?_
  rotate_left
  ·go_simp; try (with_reducible rfl)
  (simp only [Act.put]); (try simp only [List.setIfInBounds_toArray]); (try simp only [List.set_cons_succ]); (try simp only [List.set_cons_zero])
  refine WpH.doneB (by kernel_rfl) (fun w2 hw2 => ?_)
  (try simp only [List.drop_succ_cons]); (try simp only [List.drop_zero]); (try simp only [Nat.reduceSub]); (try simp only [List.take_succ_cons]); (try simp only [List.take_zero])
  replace hb00 := bl_call hb00 (Nat.le_refl _) hw2
  replace hx := hx.call hw2
  go_wp2_with fail
  go_ret
  exact ⟨rfl, by repeat (first | exact bA | with_reducible assumption | apply bB | (refine bC ?_ (by dsimp only; omega)) | apply bD | apply bE | (refine bF ?_ (by assumption)))⟩

theorem circuit_Calls (f : Nat) (y : CK) (hy : y.ok) (w : World) : Calls Tryz.prog 16 #[y.val f] w (RetI y.calls w) := by
 have hI := fun wz => circuit_In f y hy wz
 have hn := CK.nin_le hy
 cases y with
 | count =>
  rw [val_count]
  go_enter Tryz.func16, Tryz.ntmps16
  go_wp2
  go_ret
  exact ⟨rfl, by repeat (first | exact bA | with_reducible assumption | apply bB | (refine bC ?_ (by dsimp only; omega)) | apply bD | apply bE | (refine bF ?_ (by assumption)))⟩
 | sum b =>
  rw [val_sum]
  go_enter Tryz.func16, Tryz.ntmps16
  go_wp2
  go_ret
  exact ⟨rfl, by repeat (first | exact bA | with_reducible assumption | apply bB | (refine bC ?_ (by dsimp only; omega)) | apply bD | apply bE | (refine bF ?_ (by assumption)))⟩
 | vec b l c =>
  rw [val_vec] at hI ⊢
  exact circuit_Calls_chunk 3 f b l 0 c _ (.inl rfl) hy.2.2.1 hy.2.2.2 hn w hI
 | hist l c =>
  rw [val_hist] at hI ⊢
  exact circuit_Calls_chunk 4 f 0 l 0 c _ (.inr (.inl rfl)) hy.2.1 hy.2.2 hn w hI
 | multi l m c =>
  rw [val_multi] at hI ⊢
  exact circuit_Calls_chunk 5 f 0 l m c _ (.inr (.inr rfl)) hy.2.2.1 hy.2.2.2 hn w hI

end Go.Proofs.YtfbfbijkkbflkaaGreatDoor

namespace Go.Proofs.YtfbfbijkkbflkaaGreatDoor
open Go.RowKit Fm
set_option linter.unusedVariables false
set_option maxRecDepth 100000

def offN (m : Nat) : Nat := 2 ^ Lib.bitLen m - 1 - m

end Go.Proofs.YtfbfbijkkbflkaaGreatDoor

namespace Go.Proofs.YtfbfbijkkbflkaaGreatDoor
open Go.RowKit Fm
set_option linter.unusedVariables false
set_option maxRecDepth 100000

theorem ntt_Next (n : Nat) (hn : n ≤ 1024) (w : World) : Calls Tryz.prog 72 #[.int .i64 n] w fun e w' => e = .returned (.int .i64 (nextP n)) ∧ w = w' := by
 go_enter Tryz.func72, Tryz.ntmps72
 go_wp2
 go_loop [3] (fun o => ∃ p : Nat, o = .int .i64 p ∧ Hid (OnWay n p) ∧ p ≤ 1024) (fun o => 1024 - (intOf o).toNat)
 case atStart => exact ⟨1, rfl, onWay_one n, by omega⟩
 case round =>
  obtain ⟨p, rfl, hp, hp2⟩ := hrel
  by_cases hlt : p < n
  ·have h1 : p < 1024 := by omega
   have h2 := onWay_next hp.out hlt h1
   have h3 := (onWay_le h2).2
   have H2 := Lib.hid h2
   have h4 := (onWay_le hp.out).1
   clear h2
   go_wp2
   go_round
   case rel => exact ⟨2 * p, by go_num, H2.out, h3⟩
   case measure => simp [intOf]; omega
  ·have h5 := Lib.hid (onWay_end hp.out hn hlt)
   go_wp2
   go_ret
   exact ⟨ret_int (by rw [h5.out]), rfl⟩

section
variable (f : Nat) (y : CK) (hy : y.ok)
include hy

set_option maxHeartbeats 1000000 in
theorem circuit_Joint (w : World) : Calls Tryz.prog 14 #[y.val f] w (RetI y.joint w) := by
 have HC := Lib.hid (fun wz => circuit_Calls f y hy wz)
 have hn := Nat.le_trans (show y.calls ≤ y.nin from by cases y with | count => exact Nat.le_refl _ | sum b => exact Nat.le_refl _ | vec b l c => exact ceil_le hy.2.2.1 | hist l c => exact ceil_le hy.2.1 | multi l m c => exact ceil_le hy.2.2.1) (CK.nin_le hy)
 have hb00 : Below w.heap.size w w := Below.refl _ _
 cases y with
 | count =>
  rw [val_count]
  go_enter Tryz.func14, Tryz.ntmps14
  go_wp2
  go_ret
  exact ⟨rfl, by repeat (first | exact bA | with_reducible assumption | apply bB | (refine bC ?_ (by dsimp only; omega)) | apply bD | apply bE | (refine bF ?_ (by assumption)))⟩
 | sum b =>
  rw [val_sum]
  go_enter Tryz.func14, Tryz.ntmps14
  go_wp2
  go_ret
  exact ⟨rfl, by repeat (first | exact bA | with_reducible assumption | apply bB | (refine bC ?_ (by dsimp only; omega)) | apply bD | apply bE | (refine bF ?_ (by assumption)))⟩
 | vec b l c =>
  rw [show CK.joint (.vec b l c) = CK.calls (.vec b l c) from rfl]
  generalize CK.calls (.vec b l c) = q at *
  rw [val_vec] at HC ⊢
  go_enter Tryz.func14, Tryz.ntmps14
  go_wp2_with (go_at_call 16; refine (HC.out _).mono ?_; rintro e w2 ⟨rfl, hb2⟩)
  go_ret
  exact ⟨rfl, by repeat (first | exact bA | with_reducible assumption | apply bB | (refine bC ?_ (by dsimp only; omega)) | apply bD | apply bE | (refine bF ?_ (by assumption)))⟩
 | hist l c =>
  rw [show CK.joint (.hist l c) = CK.calls (.hist l c) + 1 from rfl]
  generalize CK.calls (.hist l c) = q at *
  rw [val_hist] at HC ⊢
  go_enter Tryz.func14, Tryz.ntmps14
  go_wp2_with (go_at_call 16; refine (HC.out _).mono ?_; rintro e w2 ⟨rfl, hb2⟩)
  go_ret
  exact ⟨ret_int (by omega), by repeat (first | exact bA | with_reducible assumption | apply bB | (refine bC ?_ (by dsimp only; omega)) | apply bD | apply bE | (refine bF ?_ (by assumption)))⟩
 | multi l m c =>
  rw [show CK.joint (.multi l m c) = CK.calls (.multi l m c) + 1 from rfl]
  generalize CK.calls (.multi l m c) = q at *
  rw [val_multi] at HC ⊢
  go_enter Tryz.func14, Tryz.ntmps14
  go_wp2_with (go_at_call 16; refine (HC.out _).mono ?_; rintro e w2 ⟨rfl, hb2⟩)
  go_ret
  exact ⟨ret_int (by omega), by repeat (first | exact bA | with_reducible assumption | apply bB | (refine bC ?_ (by dsimp only; omega)) | apply bD | apply bE | (refine bF ?_ (by assumption)))⟩

theorem circuit_Domain (hc : y.calls ≤ 511) (w : World) : Calls Tryz.prog 30 #[y.val f] w (RetI (nextP (y.calls + 1)) w) := by
 have HC := Lib.hid (fun wz => circuit_Calls f y hy wz)
 unfold CK.val at HC ⊢
 generalize y.calls = q at *
 have HN : Hid (∀ wz, Calls Tryz.prog 72 #[.int .i64 ((q : Int) + 1)] wz fun e w' => e = .returned (.int .i64 (nextP (q + 1))) ∧ wz = w') := fun wz => ntt_Next (q + 1) (by omega) wz
 go_enter Tryz.func30, Tryz.ntmps30
 go_wp2_with (first
  | (go_at_call 16; refine (HC.out _).mono ?_; rintro e w2 ⟨rfl, hb2⟩)
  | (go_at_call 72; refine (HN.out _).mono ?_; rintro e w3 ⟨rfl, rfl⟩))
 go_ret
 exact ⟨rfl, by repeat (first | exact bA | with_reducible assumption | apply bB | (refine bC ?_ (by dsimp only; omega)) | apply bD | apply bE | (refine bF ?_ (by assumption)))⟩

end

theorem circuit_offset (k f b l c : Int) (m : Nat) (h1 : m ≤ 64) (w : World) :
  Calls Tryz.prog 53 #[.agg #[.int .u8 k, .int .u8 f, .int .i64 b, .int .i64 l, .int .i64 m, .int .i64 c]] w fun e w' => e = .returned (.int .u64 (offN m : Int)) ∧ Below w.heap.size w w' := by
 have HW := Lib.hid (fun wz => circuit_weightBits k f b l c m h1 wz)
 have hs := bitLen_small m h1
 have HO : Hid ((2 ^ Lib.bitLen m : Nat) - 1 - m = offN m) := rfl
 generalize Lib.bitLen m = q at *
 have hmx : max (m : Int) 0 = (m : Int) := by omega
 obtain ⟨p, hp⟩ : ∃ p, 2 ^ q = p := ⟨_, rfl⟩
 have hp7 : 2 ^ q ≤ 2 ^ 7 := Nat.pow_le_pow_right (by omega) hs.1
 have hpm := hs.2.1
 rw [hp] at hp7 hpm HO
 have hpow : (2 : Int) ^ q = (p : Int) := by rw [← hp]; exact (Int.natCast_pow 2 q).symm
 have hq7 := hs.1
 have hpx : (2 : Nat) ^ 7 = 128 := rfl
 rw [hpx] at hp7
 have hb00 : Below w.heap.size w w := Below.refl _ _
 clear hs hpx hp
 go_enter Tryz.func53, Tryz.ntmps53
 go_upto_region 1 with fail
 have hx := Vs.new w [.int .u8 k, .int .u8 f, .int .i64 b, .int .i64 l, .int .i64 m, .int .i64 c] #[.int .u8 k, .int .u8 f, .int .i64 b, .int .i64 l, .int .i64 m, .int .i64 c] 30 rfl
 have hbA : Below w.heap.size w (w.alloc (.cells #[.int .u8 k, .int .u8 f, .int .i64 b, .int .i64 l, .int .i64 m, .int .i64 c] 30)) := by repeat (first | exact bA | with_reducible assumption | apply bB)
 replace hb00 := bl_call hb00 (Nat.le_refl _) hbA
 clear hbA
 generalize w.alloc (.cells #[.int .u8 k, .int .u8 f, .int .i64 b, .int .i64 l, .int .i64 m, .int .i64 c] 30) = w1 at hb00 hx ⊢
 obtain ⟨⟨x0, x1, x2, x3, x4, x5⟩, ⟨x6, x7, x8, x9, x10, x11⟩, x12⟩ := hx.get6
 refine region_B (n := 9) (m := 10) (f := 9) (by kernel_rfl) (by kernel_rfl) rfl ?_
 refine WpH.takeB (i := 0) (v := ?_) rfl (by kernel_rfl) (fun _ _ _ h => h) (.val rfl (fun wz hwz => ?_)) ?_
 rotate_left
 ·(obtain ⟨hcz, hfz⟩ := bcell hwz; go_simp; try (with_reducible rfl))
 (simp only [Act.put]); (try simp only [List.setIfInBounds_toArray]); (try simp only [List.set_cons_succ]); (try simp only [List.set_cons_zero])
 refine WpH.takeB (i := 1) rfl (by kernel_rfl) (fun _ _ _ h => h) (.call rfl (fun wz hwz => HW.out wz) (fun wz hwz => ?_)) ?_
 ·go_simp; try (with_reducible rfl)
 (simp only [Act.put]); (try simp only [List.setIfInBounds_toArray]); (try simp only [List.set_cons_succ]); (try simp only [List.set_cons_zero])
 refine WpH.takeB (i := 2) (v := ?_) rfl (by kernel_rfl) (fun _ _ _ h => h) (.val rfl (fun wz hwz => ?_)) ?_
 rotate_left
 ·go_simp; try (with_reducible rfl)
 (simp only [Act.put]); (try simp only [List.setIfInBounds_toArray]); (try simp only [List.set_cons_succ]); (try simp only [List.set_cons_zero])
 refine WpH.takeB (i := 3) (v := ?_) rfl (by kernel_rfl) (fun _ _ _ h => h) (.val rfl (fun wz hwz => ?_)) ?_
 rotate_left
 ·go_simp; try (with_reducible rfl)
 (simp only [Act.put]); (try simp only [List.setIfInBounds_toArray]); (try simp only [List.set_cons_succ]); (try simp only [List.set_cons_zero])
 refine WpH.takeB (i := 4) (v := ?_) rfl (by kernel_rfl) (fun _ _ _ h => h) (.val rfl (fun wz hwz => ?_)) ?_
 rotate_left
 ·go_simp; try (with_reducible rfl)
 (simp only [Act.put]); (try simp only [List.setIfInBounds_toArray]); (try simp only [List.set_cons_succ]); (try simp only [List.set_cons_zero])
 refine WpH.takeB (i := 5) (v := ?_) rfl (by kernel_rfl) (fun _ _ _ h => h) (.val rfl (fun wz hwz => ?_)) ?_
 rotate_left
 ·(obtain ⟨hcz, hfz⟩ := bcell hwz; go_simp; try (with_reducible rfl))
 (simp only [Act.put]); (try simp only [List.setIfInBounds_toArray]); (try simp only [List.set_cons_succ]); (try simp only [List.set_cons_zero])
 refine WpH.takeB (i := 6) (v := ?_) rfl (by kernel_rfl) (fun _ _ _ h => h) (.val rfl (fun wz hwz => ?_)) ?_
 rotate_left
 ·go_simp; try (with_reducible rfl)
 (simp only [Act.put]); (try simp only [List.setIfInBounds_toArray]); (try simp only [List.set_cons_succ]); (try simp only [List.set_cons_zero])
 refine WpH.takeB (i := 7) (v := ?_) rfl (by kernel_rfl) (fun _ _ _ h => h) (.val rfl (fun wz hwz => ?_)) ?_
 rotate_left
 ·go_simp; try (with_reducible rfl)
 (simp only [Act.put]); (try simp only [List.setIfInBounds_toArray]); (try simp only [List.set_cons_succ]); (try simp only [List.set_cons_zero])
 refine WpH.takeB (i := 8) (v := ?_) rfl (by kernel_rfl) (fun _ _ _ h => h) (.val rfl (fun wz hwz => ?_)) ?_
 rotate_left
 ·go_simp; try (with_reducible rfl)
 (simp only [Act.put]); (try simp only [List.setIfInBounds_toArray]); (try simp only [List.set_cons_succ]); (try simp only [List.set_cons_zero])
 refine WpH.doneB (by kernel_rfl) (fun w2 hw2 => ?_)
 (try simp only [List.drop_succ_cons]); (try simp only [List.drop_zero]); (try simp only [Nat.reduceSub]); (try simp only [List.take_succ_cons]); (try simp only [List.take_zero])
 replace hb00 := bl_call hb00 (Nat.le_refl _) hw2
 replace hx := hx.call hw2
 go_wp2_with fail
 go_ret
 exact ⟨ret_int (by have := HO.out; omega), hb00⟩

def CK.most : CK → Nat
 | sum b => 2 ^ b - 1
 | vec b _ _ => 2 ^ b - 1
 | _ => 1

def RetU (n : Nat) (w : World) (e : Ending) (w' : World) : Prop := e = .returned (.int .u64 (n : Int)) ∧ Below w.heap.size w w'

/-! ### the reference's circuit of a circuit -/
theorem load_cir {w : World} {b : Nat} {p q r s t u : Value} (h : Vs w b [p, q, r, s, t, u]) : (loadVar 30 ⟨b, 0, none⟩).run Tryz.prog w = .ok (.agg #[p, q, r, s, t, u]) w := by
 obtain ⟨⟨c0, c1, c2, c3, c4, c5⟩, _⟩ := h.get6
 simp [loadVar, go_sem, c0, c1, c2, c3, c4, c5]
theorem results_cir {fn : Func} {p : Tmp} {tmps : Array Value} {w : World} {b : Nat} {x0 x1 x2 x3 x4 x5 : Value} (hv : Vs w b [x0, x1, x2, x3, x4, x5]) (h : fn.results = #[.cell p 30]) (hp : tmps.getD p undef = .pointer (some ⟨b, 0, none⟩)) :
  (results fn tmps).run Tryz.prog w = .ok (.agg #[x0, x1, x2, x3, x4, x5]) w := by
 have hl := load_cir hv
 rw [Array.getD_eq_getD_getElem?] at hp
 simp only [results, h]
 simp [asAddr, hp, hl]

end Go.Proofs.YtfbfbijkkbflkaaGreatDoor

namespace Go.Proofs.YtfbfbijkkbflkaaGreatDoor
open Go.RowKit Fm
set_option linter.unusedVariables false
set_option maxRecDepth 100000

section
variable {f : Nat} (hf : IsF f)
include hf

def RetGB (w : World) (e : Ending) (w' : World) : Prop :=
 ∃ b : Nat, e = .returned (.agg #[.int .u8 2, .slice (some ⟨b, 0, none⟩) 3 3, .int .i64 0]) ∧ w.heap.size ≤ b ∧ BlkE w' b (esK ([0, -1, 1] : KL f)) ∧ Below w.heap.size w w'

set_option maxHeartbeats 4000000 in
theorem gadget_Bit2 (w : World) : Calls Tryz.prog 70 #[.int .u8 f] w (RetGB (f := f) w) := by
 go_enter Tryz.func70, Tryz.ntmps70
 go_upto_region 1 with fail
 have hr := Vs.new w [.int .u8 0, .slice none 0 0, .int .i64 0] #[.int .u8 0, .slice none 0 0, .int .i64 0] 54 rfl
 have hb00 : Below w.heap.size w (w.alloc (.cells #[.int .u8 0, .slice none 0 0, .int .i64 0] 54)) := by repeat (first | exact bA | with_reducible assumption | apply bB | (refine bC ?_ (by dsimp only; omega)) | apply bD | apply bE | (refine bF ?_ (by assumption)))
 generalize w.alloc (.cells #[.int .u8 0, .slice none 0 0, .int .i64 0] 54) = w1 at hr hb00 ⊢
 have H1 := Lib.hid (field_One hf)
 have H2 := Lib.hid (field_NegK hf (1 : Fin (Pm f)))
 obtain ⟨a0, a1, a2, a3, a4, a5, a6⟩ := hr.get3
 go_wp2_with (first
  | (go_at_call 49; refine (H1.out _).mono ?_; rintro e w2 ⟨rfl, hb2⟩; replace hr := hr.call hb2; replace hb00 := bl_call hb00 (Nat.le_refl _) hb2; obtain ⟨a0, a1, a2, a3, a4, a5, a6⟩ := hr.get3)
  | (go_at_call 104; refine (H2.out _).mono ?_; rintro e w2 ⟨rfl, hb2⟩; replace hr := hr.call hb2; replace hb00 := bl_call hb00 (Nat.le_refl _) hb2; obtain ⟨a0, a1, a2, a3, a4, a5, a6⟩ := hr.get3))
 have hne : w.heap.size < w2.heap.size := hr.lt
 have hrw := Vs.set3 hr (.int .u8 2) (.slice (some ⟨w2.heap.size, 0, none⟩) 3 3) (.int .i64 0)
 have hbw := bl_st3 hb00 (Nat.le_refl _) (.int .u8 2) (.slice (some ⟨w2.heap.size, 0, none⟩) 3 3) (.int .i64 0)
 have hsz : (((w2.setCell ⟨w.heap.size, 0, none⟩ (.int .u8 2)).setCell ⟨w.heap.size, 1, none⟩ (.slice (some ⟨w2.heap.size, 0, none⟩) 3 3)).setCell ⟨w.heap.size, 2, none⟩ (.int .i64 0)).heap.size = w2.heap.size := by simp [World.setCell]
 generalize ((w2.setCell ⟨w.heap.size, 0, none⟩ (.int .u8 2)).setCell ⟨w.heap.size, 1, none⟩ (.slice (some ⟨w2.heap.size, 0, none⟩) 3 3)).setCell ⟨w.heap.size, 2, none⟩ (.int .i64 0) = w4 at hrw hbw hsz ⊢
 have hB : BlkE (w4.alloc (.cells #[.int .u64 0, .int .u64 0, .int .u64 (lo (-(1 : Fin (Pm f)))), .int .u64 (hi (-(1 : Fin (Pm f)))), .int .u64 (lo (1 : Fin (Pm f))), .int .u64 (hi (1 : Fin (Pm f)))] 36)) w4.heap.size (esK [0, -1, 1] : List E) :=
  BlkE.new w4 _ _ (by
   show _ = (Value.int .u64 (lo (0 : Fin (Pm f))) :: .int .u64 (hi (0 : Fin (Pm f))) :: _).toArray
   rw [lo_zero, hi_zero]
   rfl)
 rw [hsz] at hB
 have hle : w.heap.size ≤ w2.heap.size := by omega
 refine bodyPost_ret (results_gadget (b := w.heap.size) (hrw.alloc _) rfl rfl) rfl ⟨w2.heap.size, rfl, hle, hB, by repeat (first | exact bA | with_reducible assumption | apply bB | (refine bC ?_ (by dsimp only; omega)) | apply bD | apply bE | (refine bF ?_ (by assumption)))⟩

set_option maxHeartbeats 1000000 in
theorem circuit_Gadget (y : CK) (hy : y.ok) (w : World) : Calls Tryz.prog 27 #[y.val f] w (RetG (y.gad f) w) := by
 cases y with
 | count =>
  rw [val_count]
  go_enter Tryz.func27, Tryz.ntmps27
  go_wp2
  refine bodyPost_ret (by simp [results, Tryz.results27, go_sem]; first | done | rfl) rfl ⟨1, _, 0, rfl, ⟨rfl, rfl, rfl⟩, by repeat (first | exact bA | with_reducible assumption | apply bB | (refine bC ?_ (by dsimp only; omega)) | apply bD | apply bE | (refine bF ?_ (by assumption)))⟩
 | vec b l c =>
  rw [val_vec]
  go_enter Tryz.func27, Tryz.ntmps27
  go_wp2
  refine bodyPost_ret (by simp [results, Tryz.results27, go_sem]; first | done | rfl) rfl ⟨3, _, c, rfl, ⟨rfl, rfl, rfl, hy.2.2.1, hy.2.2.2⟩, by repeat (first | exact bA | with_reducible assumption | apply bB | (refine bC ?_ (by dsimp only; omega)) | apply bD | apply bE | (refine bF ?_ (by assumption)))⟩
 | hist l c =>
  rw [val_hist]
  go_enter Tryz.func27, Tryz.ntmps27
  go_wp2
  refine bodyPost_ret (by simp [results, Tryz.results27, go_sem]; first | done | rfl) rfl ⟨3, _, c, rfl, ⟨rfl, rfl, rfl, hy.2.1, hy.2.2⟩, by repeat (first | exact bA | with_reducible assumption | apply bB | (refine bC ?_ (by dsimp only; omega)) | apply bD | apply bE | (refine bF ?_ (by assumption)))⟩
 | multi l m c =>
  rw [val_multi]
  go_enter Tryz.func27, Tryz.ntmps27
  go_wp2
  refine bodyPost_ret (by simp [results, Tryz.results27, go_sem]; first | done | rfl) rfl ⟨3, _, c, rfl, ⟨rfl, rfl, rfl, hy.2.2.1, hy.2.2.2⟩, by repeat (first | exact bA | with_reducible assumption | apply bB | (refine bC ?_ (by dsimp only; omega)) | apply bD | apply bE | (refine bF ?_ (by assumption)))⟩
 | sum b =>
  rw [val_sum]
  have HB := Lib.hid (gadget_Bit2 hf)
  have hb00 : Below w.heap.size w w := Below.refl _ _
  go_enter Tryz.func27, Tryz.ntmps27
  go_upto_region 1 with fail
  have hr := Vs.new (w.alloc (.cells #[.int .u8 2, .int .u8 f, .int .i64 b, .int .i64 0, .int .i64 0, .int .i64 0] 30)) [.int .u8 0, .slice none 0 0, .int .i64 0] #[.int .u8 0, .slice none 0 0, .int .i64 0] 54 rfl
  have hx := (Vs.new w [.int .u8 2, .int .u8 f, .int .i64 b, .int .i64 0, .int .i64 0, .int .i64 0] #[.int .u8 2, .int .u8 f, .int .i64 b, .int .i64 0, .int .i64 0, .int .i64 0] 30 rfl).alloc (.cells #[.int .u8 0, .slice none 0 0, .int .i64 0] 54)
  have hbA : Below w.heap.size w ((w.alloc (.cells #[.int .u8 2, .int .u8 f, .int .i64 b, .int .i64 0, .int .i64 0, .int .i64 0] 30)).alloc (.cells #[.int .u8 0, .slice none 0 0, .int .i64 0] 54)) := by repeat (first | exact bA | with_reducible assumption | apply bB | (refine bC ?_ (by dsimp only; omega)) | apply bD | apply bE | (refine bF ?_ (by assumption)))
  rw [World.size_alloc] at hr
  generalize (w.alloc (.cells #[.int .u8 2, .int .u8 f, .int .i64 b, .int .i64 0, .int .i64 0, .int .i64 0] 30)).alloc (.cells #[.int .u8 0, .slice none 0 0, .int .i64 0] 54) = w1 at hr hx hbA ⊢
  obtain ⟨⟨x0, x1, x2, x3, x4, x5⟩, ⟨x6, x7, x8, x9, x10, x11⟩, x12⟩ := hx.get6
  obtain ⟨r0, r1, r2, r3, r4, r5, r6⟩ := hr.get3
  go_wp2_with (go_at_call 70; refine (HB.out _).mono ?_; rintro e w2 ⟨g, rfl, hg, hB, hb2⟩; replace hr := hr.call hb2; replace hbA := bl_call hbA (Nat.le_refl _) hb2; have hgl : w.heap.size + 1 < g := Nat.lt_of_lt_of_le r6 hg; clear x0 x1 x2 x3 x4 x5 x6 x7 x8 x9 x10 x11 x12 r0 r1 r2 r3 r4 r5 r6; obtain ⟨r0, r1, r2, r3, r4, r5, r6⟩ := hr.get3)
  have hS := Vs.set3 hr (.int .u8 2) (.slice (some ⟨g, 0, none⟩) 3 3) (.int .i64 0)
  have hBS : BlkE (((w2.setCell ⟨w.heap.size + 1, 0, none⟩ (.int .u8 2)).setCell ⟨w.heap.size + 1, 1, none⟩ (.slice (some ⟨g, 0, none⟩) 3 3)).setCell ⟨w.heap.size + 1, 2, none⟩ (.int .i64 0)) g (esK ([0, -1, 1] : KL f)) :=
   ((hB.far (by simp; omega) _).far (by simp; omega) _).far (by simp; omega) _
  have hbS := bl_st3 (b := w.heap.size + 1) hbA (by omega) (.int .u8 2) (.slice (some ⟨g, 0, none⟩) 3 3) (.int .i64 0)
  refine bodyPost_ret (results_gadget (b := w.heap.size + 1) hS rfl rfl) rfl ?_
  exact ⟨2, _, 0, rfl, ⟨rfl, rfl, hBS.slK (by simp) hBS.lt, ⟨2, 1, rfl, rfl, k_one_ne, by omega, by omega⟩⟩, hbS⟩

omit hf in
theorem RepG.sl {w : World} {B : Nat} {k : Int} {sl : Value} {n : Int} {g : Gad f} (hg : RepG w B k sl n g) : ∃ (A : Option Addr) (a b : Nat), sl = .slice A a b := by
 cases g with
 | mul => exact ⟨_, _, _, hg.2.1⟩
 | par m => exact ⟨_, _, _, hg.2.1⟩
 | eval cs =>
  obtain ⟨A, c, h, _⟩ := hg.2.2.1
  exact ⟨_, _, _, h⟩

def CK.proof (y : CK) : Nat := y.arity + 2 * (nextP (y.calls + 1) - 1) + 1

omit hf in
theorem CK.arity_le {y : CK} (h : y.ok) : 1 ≤ y.arity ∧ y.arity ≤ 32 := by
 cases y with
 | count => exact ⟨by show 1 ≤ 2; omega, by show 2 ≤ 32; omega⟩
 | sum b => exact ⟨by show 1 ≤ 1; omega, by show 1 ≤ 32; omega⟩
 | vec b l c => have := h.2.2; exact ⟨by show 1 ≤ 2 * c; omega, by show 2 * c ≤ 32; omega⟩
 | hist l c => have := h.2; exact ⟨by show 1 ≤ 2 * c; omega, by show 2 * c ≤ 32; omega⟩
 | multi l m c => have := h.2.2; exact ⟨by show 1 ≤ 2 * c; omega, by show 2 * c ≤ 32; omega⟩

set_option maxHeartbeats 2000000 in
theorem circuit_Proof (y : CK) (hy : y.ok) (hc : y.calls ≤ 511) (w : World) : Calls Tryz.prog 21 #[y.val f] w (RetI y.proof w) := by
 have HG := Lib.hid (fun wz => circuit_Gadget hf y hy wz)
 have HD := Lib.hid (fun wz => circuit_Domain f y hy hc wz)
 have ha := gad_arity f y
 have hd := gad_degree f y
 have hal := CK.arity_le hy
 unfold CK.proof
 have hn := nextP_le (y.calls + 1)
 generalize nextP (y.calls + 1) = q at *
 unfold CK.val at HG HD ⊢
 generalize y.gad f = g at *
 generalize y.arity = r at *
 clear hc hy
 generalize ((y.k : Nat) : Int) = k at *
 generalize ((y.b : Nat) : Int) = b at *
 generalize ((y.l : Nat) : Int) = l at *
 generalize ((y.m : Nat) : Int) = m at *
 generalize ((y.c : Nat) : Int) = c at *
 have HAR : Hid (∀ (wz w1 : World) (B : Nat) (k : Int) (sl : Value) (n : Int), RepG w1 B k sl n g → Below B w1 wz → Calls Tryz.prog 28 #[.agg #[.int .u8 k, sl, .int .i64 n]] wz (RetI r wz)) := by
  intro wz w1 B k sl n hg hb
  have h := gadget_Arity wz B g k sl n (hg.below hb)
  rwa [ha] at h
 have HDG : Hid (∀ (wz w1 : World) (B : Nat) (k : Int) (sl : Value) (n : Int), RepG w1 B k sl n g → Below B w1 wz → Calls Tryz.prog 60 #[.agg #[.int .u8 k, sl, .int .i64 n]] wz (RetI 2 wz)) := by
  intro wz w1 B k sl n hg hb
  have h := gadget_Degree wz B g k sl n (hg.below hb)
  rwa [hd] at h
 clear ha hd
 have hb00 : Below w.heap.size w w := Below.refl _ _
 go_enter Tryz.func21, Tryz.ntmps21
 go_upto_region 1 with fail
 have hx := Vs.new w [.int .u8 k, .int .u8 f, .int .i64 b, .int .i64 l, .int .i64 m, .int .i64 c] #[.int .u8 k, .int .u8 f, .int .i64 b, .int .i64 l, .int .i64 m, .int .i64 c] 30 rfl
 have hbA : Below w.heap.size w (w.alloc (.cells #[.int .u8 k, .int .u8 f, .int .i64 b, .int .i64 l, .int .i64 m, .int .i64 c] 30)) := by repeat (first | exact bA | with_reducible assumption | apply bB)
 replace hb00 := bl_call hb00 (Nat.le_refl _) hbA
 clear hbA
 generalize w.alloc (.cells #[.int .u8 k, .int .u8 f, .int .i64 b, .int .i64 l, .int .i64 m, .int .i64 c] 30) = w1 at hb00 hx ⊢
 obtain ⟨⟨x0, x1, x2, x3, x4, x5⟩, ⟨x6, x7, x8, x9, x10, x11⟩, x12⟩ := hx.get6
 go_wp2_with fail
 refine (HG.out _).mono ?_
 rintro e w2 ⟨gk, sl, gn, rfl, hg, hb2⟩
 obtain ⟨A2, l2, c2, rfl⟩ := hg.sl
 replace hb00 := bl_call hb00 (Nat.le_refl _) hb2
 replace hx := hx.call hb2
 clear x0 x1 x2 x3 x4 x5 x6 x7 x8 x9 x10 x11 x12
 clear hb2
 go_upto_region 2 with fail
 have hv := Vs.new w2 [.int .u8 gk, .slice A2 l2 c2, .int .i64 gn] #[.int .u8 gk, .slice A2 l2 c2, .int .i64 gn] 54 rfl
 have hbA : Below w2.heap.size w2 (w2.alloc (.cells #[.int .u8 gk, .slice A2 l2 c2, .int .i64 gn] 54)) := by repeat (first | exact bA | with_reducible assumption | apply bB)
 replace hb00 := bl_call hb00 (Nat.le_refl _) hbA
 replace hx := hx.call hbA
 replace hg := hg.later hbA
 clear hbA
 generalize w2.alloc (.cells #[.int .u8 gk, .slice A2 l2 c2, .int .i64 gn] 54) = w3 at hb00 hx hg hv ⊢
 obtain ⟨⟨x0, x1, x2, x3, x4, x5⟩, ⟨x6, x7, x8, x9, x10, x11⟩, x12⟩ := hx.get6
 obtain ⟨v0, v1, v2, v3, v4, v5, v6⟩ := hv.get3
 have hw1 : IntKind.i64.wrap ((q : Int) - 1) = (q : Int) - 1 := IntWalk.i64_in _ (by omega)
 have hw2 : IntKind.i64.wrap (2 * ((q : Int) - 1)) = 2 * ((q : Int) - 1) := IntWalk.i64_in _ (by omega)
 have hw3 : IntKind.i64.wrap ((r : Int) + 2 * ((q : Int) - 1)) = (r : Int) + 2 * ((q : Int) - 1) := IntWalk.i64_in _ (by omega)
 have hw4 : IntKind.i64.wrap ((r : Int) + 2 * ((q : Int) - 1) + 1) = (r : Int) + 2 * ((q : Int) - 1) + 1 := IntWalk.i64_in _ (by omega)
 refine region_B (n := 10) (m := 11) (f := 10) (by kernel_rfl) (by kernel_rfl) rfl ?_
 refine WpH.takeB (i := 0) (v := ?_) rfl (by kernel_rfl) (fun _ _ _ h => h) (.val rfl (fun wz hwz => ?_)) ?_
 rotate_left
 ·(obtain ⟨hcz, hfz⟩ := bcell hwz; go_simp; try (with_reducible rfl))
 (simp only [Act.put]); (try simp only [List.setIfInBounds_toArray]); (try simp only [List.set_cons_succ]); (try simp only [List.set_cons_zero])
 refine WpH.takeB (i := 1) rfl (by kernel_rfl) (fun _ _ _ h => h) (.call rfl (fun wz hwz => HAR.out wz _ _ _ _ _ hg hwz) (fun wz hwz => ?_)) ?_
 ·go_simp; try (with_reducible rfl)
 (simp only [Act.put]); (try simp only [List.setIfInBounds_toArray]); (try simp only [List.set_cons_succ]); (try simp only [List.set_cons_zero])
 refine WpH.takeB (i := 2) (v := ?_) rfl (by kernel_rfl) (fun _ _ _ h => h) (.val rfl (fun wz hwz => ?_)) ?_
 rotate_left
 ·(obtain ⟨hcz, hfz⟩ := bcell hwz; go_simp; try (with_reducible rfl))
 (simp only [Act.put]); (try simp only [List.setIfInBounds_toArray]); (try simp only [List.set_cons_succ]); (try simp only [List.set_cons_zero])
 refine WpH.takeB (i := 3) rfl (by kernel_rfl) (fun _ _ _ h => h) (.call rfl (fun wz hwz => HDG.out wz _ _ _ _ _ hg hwz) (fun wz hwz => ?_)) ?_
 ·go_simp; try (with_reducible rfl)
 (simp only [Act.put]); (try simp only [List.setIfInBounds_toArray]); (try simp only [List.set_cons_succ]); (try simp only [List.set_cons_zero])
 refine WpH.takeB (i := 4) (v := ?_) rfl (by kernel_rfl) (fun _ _ _ h => h) (.val rfl (fun wz hwz => ?_)) ?_
 rotate_left
 ·(obtain ⟨hcz, hfz⟩ := bcell hwz; go_simp; try (with_reducible rfl))
 (simp only [Act.put]); (try simp only [List.setIfInBounds_toArray]); (try simp only [List.set_cons_succ]); (try simp only [List.set_cons_zero])
 refine WpH.takeB (i := 5) rfl (by kernel_rfl) (fun _ _ _ h => h) (.call rfl (fun wz hwz => HD.out wz) (fun wz hwz => ?_)) ?_
 ·go_simp; try (with_reducible rfl)
 (simp only [Act.put]); (try simp only [List.setIfInBounds_toArray]); (try simp only [List.set_cons_succ]); (try simp only [List.set_cons_zero])
 refine WpH.takeB (i := 6) (v := ?_) rfl (by kernel_rfl) (fun _ _ _ h => h) (.val rfl (fun wz hwz => ?_)) ?_
 rotate_left
 ·go_simp; try (with_reducible rfl)
 (simp only [Act.put]); (try simp only [List.setIfInBounds_toArray]); (try simp only [List.set_cons_succ]); (try simp only [List.set_cons_zero])
 refine WpH.takeB (i := 7) (v := ?_) rfl (by kernel_rfl) (fun _ _ _ h => h) (.val rfl (fun wz hwz => ?_)) ?_
 rotate_left
 ·go_simp; try (with_reducible rfl)
 (simp only [Act.put]); (try simp only [List.setIfInBounds_toArray]); (try simp only [List.set_cons_succ]); (try simp only [List.set_cons_zero])
 refine WpH.takeB (i := 8) (v := ?_) rfl (by kernel_rfl) (fun _ _ _ h => h) (.val rfl (fun wz hwz => ?_)) ?_
 rotate_left
 ·go_simp; try (with_reducible rfl)
 (simp only [Act.put]); (try simp only [List.setIfInBounds_toArray]); (try simp only [List.set_cons_succ]); (try simp only [List.set_cons_zero])
 refine WpH.takeB (i := 9) (v := ?_) rfl (by kernel_rfl) (fun _ _ _ h => h) (.val rfl (fun wz hwz => ?_)) ?_
 rotate_left
 ·go_simp; try (with_reducible rfl)
 (simp only [Act.put]); (try simp only [List.setIfInBounds_toArray]); (try simp only [List.set_cons_succ]); (try simp only [List.set_cons_zero])
 refine WpH.doneB (by kernel_rfl) (fun w4 hw4 => ?_)
 (try simp only [List.drop_succ_cons]); (try simp only [List.drop_zero]); (try simp only [Nat.reduceSub]); (try simp only [List.take_succ_cons]); (try simp only [List.take_zero])
 replace hb00 := bl_call hb00 (Nat.le_refl _) hw4
 go_wp2_with fail
 go_ret
 exact ⟨ret_int (by omega), hb00⟩

end

end Go.Proofs.YtfbfbijkkbflkaaGreatDoor
