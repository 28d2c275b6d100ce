/-
 TRa: what the statements of this layer share.
-/
import Derived.BigQuiet
import Derived.Test.YtpggflcapfkgpaaMal
import Derived.Test.YtpggflcapfkgpaaMam
namespace Go.Proofs.Ytpggflcapfkgpaa
open Go.RowKit Fm
set_option linter.unusedVariables false
set_option maxRecDepth 100000

theorem exec_append9 {w w' : World} {o : Oper} {a : Act} (s x : Operand) (ho : o.op = .call { callee := .builtin .append, args := #[s, x], argTypes := #[27, 27] }) {v1 v2 v' : Value} (hs : a.eval s = v1) (hx : a.eval x = v2)
  (hrun : (Builtin.append_ #[27, 27] o.type #[v1, v2]).run Try.prog w = .ok v' w') : (execOp a.eval o).run Try.prog w = .ok (.value v') w' := by
 unfold execOp
 simp only [ho, resolve, invoke, builtin, Sem.run_bind, Sem.run_pure, Result.andThen_ok, List.map_toArray, List.map_cons, List.map_nil, hs, hx, hrun]
theorem own_sliceQ {w : World} {base : Nat} {e : TypeId} {size : Nat} {v : Value} {n : Nat} {xs : List Value} (h : w.ownsRow base e size v n xs) (hn : 1 ≤ n) : ∃ g cap, v = .slice (some ⟨g, 0, none⟩) n cap := by
 rcases h.2 with ⟨hv, h0⟩ | ⟨g, cap, cur, hv, _⟩
 ·omega
 ·exact ⟨g, cap, hv⟩
theorem RowE.pre {w : World} {b o : Nat} {xs ys : List E} (h : RowE w b o (xs ++ ys)) : RowE w b o xs := fun i e hi => h i e (by
 rw [List.getElem?_append_left (List.getElem?_eq_some_iff.1 hi).1]
 exact hi)
theorem own_rowA {w : World} {base g n c : Nat} {xs : List E} (h : w.ownsRow base 55 2 (.slice (some ⟨g, 0, none⟩) n c) n (cellsE xs)) : RowE w g 0 xs ∧ g < w.heap.size ∧ base ≤ g := by
 rcases h.2 with ⟨hv, _⟩ | ⟨g', cap, cur, hv, hb, hg, hnc, hcm, hcs, ht⟩
 ·cases hv
 ·injection hv with e1 e2 e3
  injection e1 with e1
  injection e1 with e1
  subst e1
  refine ⟨fun i e hi => ?_, (Array.getElem?_eq_some_iff.1 hg).1, hb⟩
  obtain ⟨e1, e2⟩ := cellsE_at xs i e hi
  have hc := fun j u hu => h.cells (g := g) rfl j u hu
  have ha : ∀ j, (⟨g, 0, none⟩ : Addr).add j = ⟨g, 0 + j, none⟩ := by
   intro j
   unfold Addr.add
   split <;> simp_all
  have f1 := hc _ _ e1
  have f2 := hc _ _ e2
  rw [ha] at f1 f2
  exact ⟨f1, by rw [Nat.add_assoc]; exact f2⟩

theorem run_append_two (w : World) (base g n c : Nat) (ty : TypeId) (xs : List E) (hl : xs.length = n) (hown : w.ownsRow base 55 2 (.slice (some ⟨g, 0, none⟩) n c) n (cellsE xs)) (b cc : Nat) (e : E) (hb : RowE w b 0 [e]) (hbase : base ≤ w.heap.size) (hk : n + 1 ≤ 1099511627776) :
  ∃ g' c' w', (Builtin.append_ #[27, 27] ty #[.slice (some ⟨g, 0, none⟩) n c, .slice (some ⟨b, 0, none⟩) 1 cc]).run Try.prog w = .ok (.slice (some ⟨g', 0, none⟩) (n + 1) c') w' ∧
   RowE w' g 0 xs ∧ RowE w' g' 0 (xs ++ [e]) ∧ g' < w'.heap.size ∧ n + 1 ≤ c' ∧ c' ≤ 9223372036854775807 ∧ Exc (fun q => q = g) w.heap.size w w' ∧ (g' = g ∨ w.heap.size ≤ g') := by
 subst hl
 obtain ⟨hrow, hgl, _⟩ := own_rowA hown
 obtain ⟨i, hi, hz, h1, h2⟩ := info_parts info_elem
 have hown0 := hown
 rcases hown.2 with ⟨hv, _⟩ | ⟨g0, cap, cur, hv, hbg, hgg, hnc, hcm, hcs, htake⟩
 ·cases hv
 injection hv with e1 e2 e3
 injection e1 with e1
 injection e1 with e1
 subst e1
 subst e3
 by_cases hroom : xs.length + 1 ≤ c
 ·obtain ⟨v', w', hrun, h3, h4, h5⟩ := run_append_E w base ty (.slice (some ⟨g, 0, none⟩) xs.length c) xs.length xs hown0 (some ⟨b, 0, none⟩) 1 cc [e] rfl (fun _ => ⟨b, 0, rfl, hb⟩) hk hbase
  have hr := run_append_room (P := Try.prog) w 27 ty 55 i Try.underlying27 hi g xs.length c cur hgg ⟨b, 0, none⟩ 1 cc (cellsE [e]) (by rw [h1]; rfl) hb.cells (oneCell_cellsE [e]) hroom (by rw [h1, hcs]; show xs.length * 2 + 2 ≤ _; omega)
  rw [hr] at hrun
  injection hrun with q1 q2
  subst q1
  subst q2
  obtain ⟨k1, k2, _⟩ := own_rowA h3
  refine ⟨g, c, _, hr, k1.pre, k1, k2, hroom, by unfold maxLen at hcm; omega, ⟨rfl, rfl, rfl, by simp, fun k hk hne => setRow_other w g k _ hne⟩, .inl rfl⟩
 ·have hcells := hown0.cells rfl
  have hr := run_append_grow (P := Try.prog) w 27 ty 55 i _ Try.underlying27 hi hz ⟨g, 0, none⟩ xs.length c (cellsE xs) (by rw [length_cellsE, h1]) (fun j u hj => hcells j u hj) ⟨b, 0, none⟩ 1 cc (cellsE [e]) (by rw [h1]; rfl) hb.cells
   (by omega) (by omega) (growslice_fits (by omega) (by rw [h2]; omega))
  obtain ⟨v', w', hrun, h3, h4, h5⟩ := run_append_E w base ty (.slice (some ⟨g, 0, none⟩) xs.length c) xs.length xs hown0 (some ⟨b, 0, none⟩) 1 cc [e] rfl (fun _ => ⟨b, 0, rfl, hb⟩) hk hbase
  rw [hr] at hrun
  injection hrun with q1 q2
  subst q1
  subst q2
  obtain ⟨k1, k2, _⟩ := own_rowA h3
  refine ⟨w.heap.size, _, _, hr, hrow.below (undrew ((Below.refl _ _).alloc (Nat.le_refl _) _)) hgl, k1, k2, grownCap_ge _ _ _ _, ?_, exc_of (undrew ((Below.refl _ _).alloc (Nat.le_refl _) _)), .inr (Nat.le_refl _)⟩
  have h9 := grownCap_le_maxLen w (xs.length + 1) c 55 (by unfold maxLen; omega)
  unfold maxLen at h9
  omega

/-! ### what is known while such a region goes on -/
def ApT (w0 : World) (g : Nat) (xs : List E) (o1 : Option Nat) (o2 : Option (Nat × Nat)) (o3 : Option Nat) (wz : World) : Prop :=
 Exc (fun q => q = g) w0.heap.size w0 wz ∧ RowE wz g 0 xs ∧ (∀ q, o2 = some q → RowE wz q.1 0 (xs ++ [(0, 0)]) ∧ q.1 < wz.heap.size ∧ xs.length + 1 ≤ q.2 ∧ q.2 ≤ 9223372036854775807)
structure ApK (w0 : World) (base g n c : Nat) (xs : List E) (cs ds : List Value) (o1 : Option Nat) (o2 : Option (Nat × Nat)) (o3 : Option Nat) (s : Bool) (wz : World) : Prop where
 t : ApT w0 g xs o1 o2 o3 wz
 u : o2 = none → wz.ownsRow base 55 2 (.slice (some ⟨g, 0, none⟩) n c) n (cellsE xs)
 gl : g < w0.heap.size
 a : ∀ b, o1 = some b → w0.heap.size ≤ b ∧ RowE wz b 0 [(0, 0)] ∧ b < wz.heap.size
 c : ∀ b, o3 = some b → w0.heap.size ≤ b ∧ Vs wz b (if s = true then ds else cs)
 d : ∀ (q : Nat × Nat) (b : Nat), o2 = some q → o3 = some b → q.1 ≠ b
theorem RowE.exc9 {w w' : World} {g B b o : Nat} {xs : List E} (h : RowE w b o xs) (hb : Exc (fun q => q = g) B w w') (hn : b ≠ g) (hl : b < B) : RowE w' b o xs :=
 fun i e hi => ⟨(hb.cell (p := ⟨b, o + i * 2, none⟩) hl hn).trans (h i e hi).1, (hb.cell (p := ⟨b, o + i * 2 + 1, none⟩) hl hn).trans (h i e hi).2⟩
theorem ApT.call {w0 w w' : World} {g : Nat} {xs : List E} {o1 : Option Nat} {o2 : Option (Nat × Nat)} {o3 : Option Nat} (h : ApT w0 g xs o1 o2 o3 w) (hg : g < w.heap.size) (hb : Below w.heap.size w w') : ApT w0 g xs o1 o2 o3 w' :=
 ⟨h.1.call hb, h.2.1.below hb hg, fun q e => by
  obtain ⟨h1, h2, h3, h4⟩ := h.2.2 q e
  exact ⟨h1.below hb h2, Nat.lt_of_lt_of_le h2 hb.size, h3, h4⟩⟩
theorem ApK.clo {w0 : World} {base g n c : Nat} {xs : List E} {cs ds : List Value} {o1 : Option Nat} {o2 : Option (Nat × Nat)} {o3 : Option Nat} {s : Bool} : Clo (ApK w0 base g n c xs cs ds o1 o2 o3 s) := fun w w' h hb =>
 have hg : g < w.heap.size := Nat.lt_of_lt_of_le h.gl h.t.1.size
 ⟨h.t.call hg hb, fun e => own_call (h.u e) hb, h.gl, fun b e => by
  obtain ⟨h1, h2, h3⟩ := h.a b e
  exact ⟨h1, h2.below hb h3, Nat.lt_of_lt_of_le h3 hb.size⟩, fun b e => ⟨(h.c b e).1, (h.c b e).2.call hb⟩, h.d⟩
theorem ApK.mk1 {w0 w : World} {base g n c : Nat} {xs : List E} {cs ds : List Value} {o2 : Option (Nat × Nat)} {o3 : Option Nat} {s : Bool} (h : ApK w0 base g n c xs cs ds none o2 o3 s w) : ApK w0 base g n c xs cs ds (some w.heap.size) o2 o3 s (w.alloc (.cells #[.int .u64 0, .int .u64 0] 55)) := by
 have h2 := ApK.clo _ _ h ((Below.refl w.heap.size w).alloc (Nat.le_refl _) (.cells #[.int .u64 0, .int .u64 0] 55))
 have hr : BlkE (w.alloc (.cells #[.int .u64 0, .int .u64 0] 55)) w.heap.size [((0 : Int), (0 : Int))] := BlkE.new w _ _ rfl
 refine ⟨⟨h2.t.1, h2.t.2.1, h2.t.2.2⟩, h2.u, h2.gl, fun b e => ?_, h2.c, h2.d⟩
 injection e with e
 subst e
 exact ⟨h.t.1.size, hr.rowE, hr.lt⟩
theorem ApK.mk3 {w0 w : World} {base g n c : Nat} {xs : List E} {cs ds : List Value} {o1 : Option Nat} {o2 : Option (Nat × Nat)} (h : ApK w0 base g n c xs cs ds o1 o2 none false w) (t : TypeId) : ApK w0 base g n c xs cs ds o1 o2 (some w.heap.size) false (w.alloc (.cells cs.toArray t)) := by
 have h2 := ApK.clo _ _ h ((Below.refl w.heap.size w).alloc (Nat.le_refl _) (.cells cs.toArray t))
 refine ⟨⟨h2.t.1, h2.t.2.1, h2.t.2.2⟩, h2.u, h2.gl, h2.a, fun b e => ?_, fun q b e1 e2 => ?_⟩
 ·injection e with e
  subst e
  exact ⟨h.t.1.size, Vs.new w cs cs.toArray t rfl⟩
 ·injection e2 with e2
  obtain ⟨_, h3, _, _⟩ := h.t.2.2 q e1
  omega
theorem ApK.mk2 {w0 w w' : World} {base g n c : Nat} {xs : List E} {cs ds : List Value} {o1 : Option Nat} {o3 : Option Nat} (h : ApK w0 base g n c xs cs ds o1 none o3 false w) (q : Nat × Nat) (h1 : RowE w' g 0 xs) (h2 : RowE w' q.1 0 (xs ++ [(0, 0)])) (h3 : q.1 < w'.heap.size) (h4 : xs.length + 1 ≤ q.2) (h5 : q.2 ≤ 9223372036854775807) (hE : Exc (fun q => q = g) w.heap.size w w') (h6 : q.1 = g ∨ w.heap.size ≤ q.1) :
  ApK w0 base g n c xs cs ds o1 (some q) o3 false w' := by
 have hgl := h.gl
 refine ⟨⟨h.t.1.more hE fun k hk => .inl hk, h1, fun q' e => ?_⟩, fun e => (by cases e), h.gl, fun b e => ?_, fun b e => ?_, fun q' b e1 e2 => ?_⟩
 ·injection e with e
  subst e
  exact ⟨h2, h3, h4, h5⟩
 ·obtain ⟨k1, k2, k3⟩ := h.a b e
  exact ⟨k1, k2.exc9 hE (by omega) k3, Nat.lt_of_lt_of_le k3 hE.size⟩
 ·obtain ⟨k1, k2⟩ := h.c b e
  have hn : ¬ b = g := by omega
  exact ⟨k1, k2.exc (S := fun q => q = g) hn hE⟩
 ·injection e1 with e1
  subst e1
  obtain ⟨k1, k2⟩ := h.c b e2
  have k3 := k2.lt
  rcases h6 with h6 | h6 <;> omega
theorem ApK.start {w0 : World} {base g n c : Nat} {xs : List E} {cs ds : List Value} (hown : w0.ownsRow base 55 2 (.slice (some ⟨g, 0, none⟩) n c) n (cellsE xs)) : ApK w0 base g n c xs cs ds none none none false w0.drew := by
 obtain ⟨hr, hg, _⟩ := own_rowA hown
 have hb : Below w0.heap.size w0 w0.drew := (Below.refl _ _).drew
 exact ⟨⟨exc_of hb, hr.below hb hg, fun _ e => (by cases e)⟩, fun _ => own_call hown hb, hg, fun _ e => (by cases e), fun _ e => (by cases e), fun _ _ e => (by cases e)⟩
theorem RowE.same9 {w w' : World} {b o : Nat} {xs : List E} (h : RowE w b o xs) (hb : w'.heap[b]? = w.heap[b]?) : RowE w' b o xs :=
 fun i e hi => ⟨(World.cell?_of_block (w := w) (a := ⟨b, o + i * 2, none⟩) hb).trans (h i e hi).1, (World.cell?_of_block (w := w) (a := ⟨b, o + i * 2 + 1, none⟩) hb).trans (h i e hi).2⟩
theorem ApK.turn {w0 w w' : World} {base g n c : Nat} {xs : List E} {cs ds : List Value} {o1 : Option Nat} {q : Nat × Nat} {b : Nat} (h : ApK w0 base g n c xs cs ds o1 (some q) (some b) false w) (h1 : ∀ k, k ≠ b → w'.heap[k]? = w.heap[k]?) (h2 : w'.heap.size = w.heap.size) (h3 : w'.os = w.os) (h4 : w'.tape = w.tape) (h5 : w'.output = w.output) (hv : Vs w' b ds)
  (ha : ∀ b1, o1 = some b1 → b1 ≠ b) : ApK w0 base g n c xs cs ds o1 (some q) (some b) true w' := by
 obtain ⟨k1, k2⟩ := h.c b rfl
 have hgl := h.gl
 have hgb : g ≠ b := by omega
 obtain ⟨q1, q2, q3, q4⟩ := h.t.2.2 q rfl
 refine ⟨⟨h.t.1.trans ⟨h3, h4, h5, Nat.le_of_eq h2.symm, fun k hk _ => h1 k (by omega)⟩, h.t.2.1.same9 (h1 g hgb), fun q' e => ?_⟩, fun e => (by cases e), hgl, fun b1 e => ?_, fun b' e => ?_, h.d⟩
 ·injection e with e
  subst e
  exact ⟨q1.same9 (h1 _ (h.d q b rfl rfl)), by rw [h2]; exact q2, q3, q4⟩
 ·obtain ⟨a1, a2, a3⟩ := h.a b1 e
  exact ⟨a1, a2.same9 (h1 _ (ha b1 e)), by rw [h2]; exact a3⟩
 ·injection e with e
  subst e
  exact ⟨k1, hv⟩
theorem one_ne {w : World} {b1 b : Nat} {cs : List Value} {A : Option Addr} {n c : Nat} (h : RowE w b1 0 [(0, 0)]) (k : Vs w b cs) (hc : cs[0]? = some (.slice A n c)) : b1 ≠ b := by
 rintro rfl
 have h1 := (h 0 _ rfl).1
 have h2 := k.cell 0 _ hc
 rw [Nat.zero_mul, Nat.add_zero] at h1
 rw [h1] at h2
 cases h2
theorem ApK.put4 {w0 w : World} {base g n c : Nat} {xs : List E} {x1 x2 x3 y0 y1 y2 y3 : Value} {o1 : Option Nat} {q : Nat × Nat} {b : Nat} (h : ApK w0 base g n c xs [.slice none 0 0, x1, x2, x3] [y0, y1, y2, y3] o1 (some q) (some b) false w) :
  ApK w0 base g n c xs [.slice none 0 0, x1, x2, x3] [y0, y1, y2, y3] o1 (some q) (some b) true ((((w.setCell ⟨b, 0, none⟩ y0).setCell ⟨b, 1, none⟩ y1).setCell ⟨b, 2, none⟩ y2).setCell ⟨b, 3, none⟩ y3) := by
 obtain ⟨k1, k2⟩ := h.c b rfl
 rw [if_neg (by decide)] at k2
 have hv := (((k2.put 0 (by simp) y0).put 1 (by simp) y1).put 2 (by simp) y2).put 3 (by simp) y3
 simp only [List.set_cons_zero, List.set_cons_succ] at hv
 refine h.turn (fun k hk => ?_) (by simp [World.setCell]) rfl rfl rfl hv fun b1 e => one_ne (h.a b1 e).2.1 k2 rfl
 exact (Below.heap_setCell _ _ _ k hk).trans ((Below.heap_setCell _ _ _ k hk).trans ((Below.heap_setCell _ _ _ k hk).trans (Below.heap_setCell _ _ _ k hk)))
theorem ApK.put2 {w0 w : World} {base g n c : Nat} {xs : List E} {x1 y0 y1 : Value} {o1 : Option Nat} {q : Nat × Nat} {b : Nat} (h : ApK w0 base g n c xs [.slice none 0 0, x1] [y0, y1] o1 (some q) (some b) false w) :
  ApK w0 base g n c xs [.slice none 0 0, x1] [y0, y1] o1 (some q) (some b) true ((w.setCell ⟨b, 0, none⟩ y0).setCell ⟨b, 1, none⟩ y1) := by
 obtain ⟨k1, k2⟩ := h.c b rfl
 rw [if_neg (by decide)] at k2
 have hv := (k2.put 0 (by simp) y0).put 1 (by simp) y1
 simp only [List.set_cons_zero, List.set_cons_succ] at hv
 refine h.turn (fun k hk => ?_) (by simp [World.setCell]) rfl rfl rfl hv fun b1 e => one_ne (h.a b1 e).2.1 k2 rfl
 exact (Below.heap_setCell _ _ _ k hk).trans (Below.heap_setCell _ _ _ k hk)

theorem own_blk9 {w : World} {g n : Nat} {l : List E} (h : BlkE w g l) (hl : l.length = n) (hn : n ≤ 1000000) : w.ownsRow 0 55 2 (.slice (some ⟨g, 0, none⟩) n n) n (cellsE l) := by
 subst hl
 refine ⟨by rw [length_cellsE], .inr ⟨g, l.length, _, rfl, Nat.zero_le _, h, Nat.le_refl _, by unfold maxLen; omega, ?_, ?_⟩⟩
 ·simp [length_cellsE]
 ·show List.take (l.length * 2) (cellsE l) = cellsE l
  rw [List.take_of_length_le (by rw [length_cellsE]; exact Nat.le_refl _)]
theorem own_exc9 {S : Nat → Prop} {w w' : World} {base : Nat} {e : TypeId} {size g n c : Nat} {xs : List Value} (h : w.ownsRow base e size (.slice (some ⟨g, 0, none⟩) n c) n xs) (hn : ¬ S g) (hb : Exc S w.heap.size w w') : w'.ownsRow base e size (.slice (some ⟨g, 0, none⟩) n c) n xs := by
 refine ⟨h.1, ?_⟩
 rcases h.2 with ⟨hv, _⟩ | ⟨g', cap, cur, hv, h2, h3, h4⟩
 ·cases hv
 ·injection hv with e1 e2 e3
  injection e1 with e1
  injection e1 with e1
  subst e1
  subst e3
  have hlt := (Array.getElem?_eq_some_iff.1 h3).1
  exact .inr ⟨_, _, cur, rfl, h2, (hb.block _ hlt hn).trans h3, h4⟩
theorem own_base {w : World} {base base' : Nat} {e : TypeId} {size n : Nat} {v : Value} {xs : List Value} (h : w.ownsRow base e size v n xs) (hb : base' ≤ base) : w.ownsRow base' e size v n xs := by
 refine ⟨h.1, ?_⟩
 rcases h.2 with h | ⟨g', cap, cur, hv, h2, h3⟩
 ·exact .inl h
 ·exact .inr ⟨g', cap, cur, hv, Nat.le_trans hb h2, h3⟩
theorem own_capA {w : World} {base g n c : Nat} {xs : List Value} (h : w.ownsRow base 55 2 (.slice (some ⟨g, 0, none⟩) n c) n xs) : n ≤ c ∧ c ≤ 9223372036854775807 := by
 rcases h.2 with ⟨hv, _⟩ | ⟨g', cap, cur, hv, h2, h3, h4, h5, _⟩
 ·cases hv
 ·injection hv with e1 e2 e3
  subst e3
  exact ⟨h4, by unfold maxLen at h5; omega⟩
theorem slE_one {f : Nat} {w : World} {g n c : Nat} {l : KL f} (hl : l.length = n) (h : RowE w g 0 (esK l ++ [(0, 0)])) (hg : g < w.heap.size) (hc : n + 1 ≤ c) (hm : c ≤ 9223372036854775807) : SlE w w.heap.size (.slice (some ⟨g, 0, none⟩) (n + 1) c) (esK l ++ [(0, 0)]) := by
 have hlen : (esK l ++ [((0 : Int), (0 : Int))]).length = n + 1 := by rw [List.length_append, esK_length, hl]; rfl
 refine ⟨⟨some ⟨g, 0, none⟩, c, by rw [hlen], by rw [hlen]; exact hc, hm, fun _ => ⟨g, 0, rfl, hg, h⟩⟩, fun e he => ?_⟩
 rcases List.mem_append.1 he with h1 | h1
 ·exact esK_ok l e h1
 ·rw [List.mem_singleton.1 h1]
  exact ⟨by decide, by decide, by decide, by decide⟩
theorem allIn_one {f : Nat} (hf : IsF f) (l : KL f) : AllIn (Pm f : Nat) (esK l ++ [(0, 0)]) := fun e he => by
 rcases List.mem_append.1 he with h1 | h1
 ·exact allIn_esK l e h1
 ·rw [List.mem_singleton.1 h1]
  rcases hf.or with rfl | rfl <;> decide

theorem SlK.excLo {f : Nat} {S : Nat → Prop} {w w' : World} {v : Value} {l : KL f} {lo : Nat} (h : SlK w w.heap.size v l) (hl : ∀ p n c, v = Value.slice (some p) n c → lo ≤ p.block) (hS : ∀ q, S q → q < lo) (hb : Exc S w.heap.size w w') : SlK w' w'.heap.size v l := by
 obtain ⟨A, c, hv, h1, h2, h3⟩ := h
 refine ⟨A, c, hv, h1, h2, fun hp => ?_⟩
 obtain ⟨b, o, e, k2, k4⟩ := h3 hp
 subst e
 have hlo := hl _ _ _ hv
 have hn : ¬ S b := fun hs => by
  have h9 := hS b hs
  have h8 : lo ≤ b := hlo
  omega
 exact ⟨b, o, rfl, Nat.lt_of_lt_of_le k2 hb.size, fun i e hi => ⟨(hb.cell (p := ⟨b, o + i * 2, none⟩) k2 hn).trans (k4 i e hi).1, (hb.cell (p := ⟨b, o + i * 2 + 1, none⟩) k2 hn).trans (k4 i e hi).2⟩⟩

end Go.Proofs.Ytpggflcapfkgpaa
