/-
 PkJ, PkL, PkM, BtA, BtB, BtC: for CollectRight.
-/
import Derived.BigQuiet
import Derived.Deep.DeepAppendRoom
import Derived.Test.YtbakkmfjamcbfaaUad
namespace Go.Proofs.Ytbakkmfjamcbfaa
open Go.RowKit Fm
set_option linter.unusedVariables false
set_option maxRecDepth 100000

section
variable {P : Program} {ops : Array Oper} {Q : Exit → Act → World → Prop} {md : Region.Mode} {n m : Nat} {L : Act → World → Prop} {f : Nat} {listed : Array Bool} {a : Act} {T S : World → Prop}
theorem WpX.dieD (i : Nat) {oi : Oper} (hi : ops[i]? = some oi) (hB : (decide (i < n) && decide (Region.ready md ops listed = [i])) = true) (hw : Region.wanted oi (yielded ops a.tmps) = true)
  {g : FuncId} {args : Array Value} (h : ∀ w, S w → (execOp a.eval oi).run P w = .ok (.enter g args) w)
  (hc : ∀ w, S w → Calls P g args w (fun e w' => ∃ c, e = .panicked c ∧ Q (.panic c) a w')) : WpX P md ops Q n m L (f + 1) listed a T S := by
 simp only [Bool.and_eq_true, decide_eq_true_eq] at hB
 obtain ⟨hin, hr⟩ := hB
 intro hST hC hp inv
 refine ⟨by rw [hr]; simp, fun j hj => ?_⟩
 have hj' : j = i := by rw [hr] at hj; simpa using hj
 subst hj'
 refine ⟨hin, fun w hS => ?_⟩
 unfold Go.wpOp
 simp only [hi, hw, if_true]
 refine .inl ?_
 unfold Oper.wp
 rw [h w hS]
 refine Calls.mono (hc w hS) fun e w'' ⟨c, he, hq⟩ => ?_
 subst he
 exact hq
end

section
variable {P : Program} {Q : Exit → Act → World → Prop}
theorem region_Z1 {id n m f : Nat} {l : List Oper} {a : Act} {w : World} {α : Type} (R : α → World → Prop) (T S : World → Prop) (hST : ∀ w, S w → T w) (hC : Clo S) (hS : S w.drew) {E : α → Act} (hm : P.follows .mixedOrders = true) (hB : partsB .any l.toArray n m (Array.replicate l.length false) = true) (hf : f + (m - n) = l.length)
  (h : WpX P .any l.toArray Q n m (fun a w => ∃ x, a = E x ∧ R x w) f (Array.replicate l.length false) a T S)
  (hc : ∀ x w', R x w' → wpList P l.toArray Q ((l.drop n).take (m - n)) (E x) w') : (Code.region id l.toArray true).wp P Q a w :=
 region_X T S hST hC hS hm hB hf (h.monoZ fun _ w ⟨x, e, hr⟩ => e ▸ hc x w hr)
end
def RjT (w0 : World) (rb : Nat) (o : Option (Option Addr × Nat)) (w : World) : Prop := Exc (fun q => q = rb) w0.heap.size w0 w
structure RjK (w0 : World) (rb B : Nat) (xs ys bs : List Int) (o : Option (Option Addr × Nat)) (w : World) : Prop where
 t : Exc (fun q => q = rb) w0.heap.size w0 w
 a : o = none → RdL w rb B xs
 b : ∀ p, o = some p → RdL w rb B ys ∧ w.ownsRow w0.heap.size 5 1 (.slice p.1 bs.length p.2) bs.length (cells8 bs)
section
variable {w0 w w' : World} {rb B : Nat} {xs ys bs : List Int} {o : Option (Option Addr × Nat)}
theorem RjK.weak (o : Option (Option Addr × Nat)) (w : World) (h : RjK w0 rb B xs ys bs o w) : RjT w0 rb o w := h.t
theorem RjK.clo : Clo (RjK w0 rb B xs ys bs o) := fun w w' h hb => ⟨h.t.later hb, fun e => (h.a e).call hb, fun p e => ⟨(h.b p e).1.call hb, own_call (h.b p e).2 hb⟩⟩
theorem RjK.start (h : RdL w0 rb B xs) : RjK w0 rb B xs ys bs none w0.drew := ⟨exc_of ((Below.refl _ _).drew), fun _ => h.call ((Below.refl _ _).drew), fun p e => by cases e⟩
theorem RjK.took (h : RjK w0 rb B xs ys bs none w) {e : Ending} (hr : RetRd rb B bs ys w e w') : ∃ p : Option Addr × Nat, e = .returned (.slice p.1 bs.length p.2) ∧ RjK w0 rb B xs ys bs (some p) w' := by
 obtain ⟨A, c, he, ho, hd, hx⟩ := hr
 refine ⟨(A, c), he, h.t.more hx (fun q hq => .inl hq), (fun e => by cases e), fun p e => ?_⟩
 injection e with e
 subst e
 exact ⟨hd, own_lower ho h.t.size⟩
end

theorem RdL.exc {w w' : World} {rb B x : Nat} {xs : List Int} (h : RdL w rb B xs) (hx : Exc (fun q => q = x) w.heap.size w w') (h1 : rb ≠ x) (h2 : B ≤ x) : RdL w' rb B xs := by
 obtain ⟨⟨A, c, a1, a2, a3, a4⟩, h5⟩ := h
 refine ⟨⟨A, c, a1.exc (S := fun q => q = x) h1 hx, a2, a3, fun hp => ?_⟩, h5⟩
 obtain ⟨b, o, e1, e2, e3⟩ := a4 hp
 have hlt := a1.lt
 exact ⟨b, o, e1, e2, fun i e hi => (hx.cell (p := ⟨b, o + i, none⟩) (by dsimp only; omega) (by dsimp only; omega)).trans (e3 i e hi)⟩

theorem own_src0 {w : World} {B n c : Nat} {A : Option Addr} {xs : List Int} (h : w.ownsRow B 5 1 (.slice A n c) n (cells8 xs)) (hn : 0 < n) : ∃ b, A = some ⟨b, 0, none⟩ ∧ RowB w b 0 xs := by
 rcases h.2 with ⟨hv, h0⟩ | ⟨g, cap, cur, hv, _⟩
 ·omega
 ·injection hv with e1 e2 e3
  subst e1
  exact ⟨g, rfl, (own_rowB h).1⟩
theorem own_cap {w : World} {B n c : Nat} {A : Option Addr} {xs : List Int} (h : w.ownsRow B 5 1 (.slice A n c) n (cells8 xs)) : n ≤ c ∧ c ≤ 9223372036854775807 ∧ (0 < n → ∃ b, A = some ⟨b, 0, none⟩ ∧ RowB w b 0 xs ∧ b < w.heap.size) := by
 rcases h.2 with ⟨hv, h0⟩ | ⟨g, cap, cur, hv, h2, h3, h4, h5, h6, h7⟩
 ·injection hv with e1 e2 e3
  omega
 ·injection hv with e1 e2 e3
  subst e1
  unfold maxLen at h5
  exact ⟨by omega, by omega, fun _ => ⟨g, rfl, (own_rowB h).1, (own_rowB h).2.1⟩⟩
theorem Vs.thereT {w : World} {b : Nat} {v : Value} {m : Int} {k : List Int} (h : Vs w b (totL v m k)) (j : Nat) (hj : j < k.length) : (w.cell? ⟨b, 2 + j, none⟩).isSome = true ∧ w.frozen? ⟨b, 2 + j, none⟩ = false := by
 obtain ⟨h1, h2⟩ := h.totK hj
 exact ⟨by rw [h1]; rfl, h2⟩
theorem Vs.copyT {w : World} {b : Nat} {v : Value} {m : Int} {k k2 : List Int} (h : Vs w b (totL v m k)) (hl : k2.length = k.length) : Vs (w.setCells b 2 (cells8 k2)) b (totL v m k2) := by
 have hlc : (cells8 k2).length = k.length := by rw [cells8_length, hl]
 refine ⟨fun i u hi => ?_, fun i hi => ?_, by rw [size_setCells]; exact h.lt⟩
 ·match i, hi with
  | 0, hi =>
   rw [World.cell?_setCells_out b _ 2 w ⟨b, 0, none⟩ (fun _ _ => .inl (by simp))]
   exact h.cell 0 u hi
  | 1, hi =>
   rw [World.cell?_setCells_out b _ 2 w ⟨b, 1, none⟩ (fun _ _ => .inl (by simp))]
   exact h.cell 1 u hi
  | j + 2, hi =>
   have hj : (cells8 k2)[j]? = some u := hi
   have hjl := (List.getElem?_eq_some_iff.1 hj).1
   have h1 := World.cell?_setCells_in b (cells8 k2) 2 w (fun q hq => (h.thereT q (by rw [← hlc]; exact hq)).1) j hjl
   rw [Nat.add_comm 2 j] at h1
   rw [h1]
   rw [List.getElem?_eq_getElem hjl] at hj
   exact hj
 ·rw [World.frozen?_setCells]
  exact h.frz i (by
   have e1 : (totL v m k2).length = (cells8 k2).length + 1 + 1 := rfl
   have e2 : (totL v m k).length = (cells8 k).length + 1 + 1 := rfl
   rw [e2, cells8_length]
   rw [e1, hlc] at hi
   exact hi)
theorem wpList_copyT {w : World} {ops : Array Oper} {rest : List Oper} {o : Oper} {a : Act} {Q : Exit → Act → World → Prop} (hgd : o.guard = none) (s x : Operand) (dT sT : TypeId)
  (ho : o.op = .call { callee := .builtin .copy, args := #[s, x], argTypes := #[dT, sT] }) (hu : Try.prog.underlying dT = some (.slice 5))
  (b dc g sc : Nat) (v : Value) (m : Int) (hs : a.eval s = .slice (some ⟨b, 2, none⟩) 16 dc) (hx : a.eval x = .slice (some ⟨g, 0, none⟩) 16 sc) (cs old : List Int) (hcs : cs.length = 16) (hold : old.length = 16) (hb : Vs w b (totL v m old)) (hrow : RowB w g 0 cs)
  (h : wpList Try.prog ops Q rest (a.put o.dst (.int .i64 16)) (w.setCells b 2 (cells8 cs))) : wpList Try.prog ops Q (o :: rest) a w := by
 have hl : (cells8 cs).length = 16 := by rw [cells8_length, hcs]
 have hrun := run_copy_cells (P := Try.prog) w dT sT o.type 5 b 2 16 dc ⟨g, 0, none⟩ 16 sc (cells8 cs) hu (by kernel_rfl) hl (fun j u hu => hrow.cells j u hu)
  (fun j hj => (hb.thereT j (by rw [hold, ← hl]; exact hj)).1) (fun j hj => (hb.thereT j (by rw [hold, ← hl]; exact hj)).2) (one8 cs)
 rw [hl] at hrun
 refine wpList_plain hgd fun K hK => ?_
 unfold Oper.wp execOp
 simp only [ho, resolve, invoke, builtin, Sem.run_bind, Sem.run_pure, Result.andThen_ok, List.map_toArray, List.map_cons, List.map_nil, hs, hx, hrun]
 exact hK _ _ h

abbrev TvQ := Option Addr × Nat × Nat × Int
def TvOk (f n : Nat) (bs : List Int) (B : Nat) (q : TvQ) (w : World) : Prop :=
 (∃ S : KL f, q.2.1 = n ∧ q.2.2.2 = 0 ∧ S.length = n ∧ vecB S = bs ∧ w.ownsRow B 99 2 (.slice q.1 n q.2.2.1) n (cellsE (esK S))) ∨ (q.1 = none ∧ q.2.1 = 0 ∧ q.2.2.1 = 0 ∧ q.2.2.2 = 7 ∧ ∀ S : KL f, S.length = n → vecB S ≠ bs)
theorem TvOk.call {f n B : Nat} {bs : List Int} {q : TvQ} {w w' : World} (h : TvOk f n bs B q w) (hb : Below w.heap.size w w') : TvOk f n bs B q w' := by
 rcases h with ⟨S, h1, h2, h3, h4, h5⟩ | h
 ·exact .inl ⟨S, h1, h2, h3, h4, own_call h5 hb⟩
 ·exact .inr h
structure RkK (w0 : World) (rb B : Nat) (xs ys bs : List Int) (f n : Nat) (o : Option (Option Addr × Nat)) (q : Option TvQ) (w : World) : Prop where
 k : RjK w0 rb B xs ys bs o w
 q : ∀ p, q = some p → TvOk f n bs w0.heap.size p w
def RkT (w0 : World) (rb : Nat) (o : Option (Option Addr × Nat)) (q : Option TvQ) (w : World) : Prop := Exc (fun q => q = rb) w0.heap.size w0 w
section
variable {w0 w w' : World} {rb B f n : Nat} {xs ys bs : List Int} {o : Option (Option Addr × Nat)} {q : Option TvQ}
theorem RkK.weak (o : Option (Option Addr × Nat)) (q : Option TvQ) (w : World) (h : RkK w0 rb B xs ys bs f n o q w) : RkT w0 rb o q w := h.k.t
theorem RkK.clo : Clo (RkK w0 rb B xs ys bs f n o q) := fun w w' h hb => ⟨RjK.clo w w' h.k hb, fun p e => (h.q p e).call hb⟩
theorem RkK.start (h : RdL w0 rb B xs) : RkK w0 rb B xs ys bs f n none none w0.drew := ⟨RjK.start h, fun p e => by cases e⟩
theorem RkK.took (h : RkK w0 rb B xs ys bs f n none none w) {e : Ending} (hr : RetRd rb B bs ys w e w') : ∃ p : Option Addr × Nat, e = .returned (.slice p.1 bs.length p.2) ∧ RkK w0 rb B xs ys bs f n (some p) none w' := by
 obtain ⟨p, he, hk⟩ := h.k.took hr
 exact ⟨p, he, hk, fun p e => by cases e⟩
theorem RkK.vec {p : Option Addr × Nat} (h : RkK w0 rb B xs ys bs f n (some p) none w) {e : Ending} (hr : RetTV f n bs w e w') : ∃ q : TvQ, e = .returned (.tuple #[.slice q.1 q.2.1 q.2.2.1, .int .i64 q.2.2.2]) ∧ RkK w0 rb B xs ys bs f n (some p) (some q) w' := by
 rcases hr with ⟨S, A, c, he, hl, hv, ho, hb⟩ | ⟨he, hn, hb⟩
 ·refine ⟨(A, n, c, 0), he, RjK.clo w w' h.k hb, fun q e => ?_⟩
  injection e with e
  subst e
  exact .inl ⟨S, rfl, rfl, hl, hv, own_lower ho h.k.t.size⟩
 ·refine ⟨(none, 0, 0, 7), he, RjK.clo w w' h.k hb, fun q e => ?_⟩
  injection e with e
  subst e
  exact .inr ⟨rfl, rfl, rfl, rfl, hn⟩
end

def TkErr (f n M : Nat) (bs : List Int) (c : Int) : Prop :=
 (c = 3 ∧ bs.length < 20 + M) ∨ (c = 6 ∧ 4 ≤ bs.length ∧ ¬ valB (bs.take 4) ≤ 256) ∨ (c = 7 ∧ 20 + M ≤ bs.length ∧ ∀ S : KL f, S.length = n → vecB S ≠ ((bs.drop 4).drop 16).take M)
def TkRes (f n M xb B0 : Nat) (bs : List Int) (w : World) : Prop :=
 20 + M ≤ bs.length ∧ valB (bs.take 4) ≤ 256 ∧ ∃ (A : Option Addr) (c : Nat) (S : KL f), Vs w xb (totL (.slice A n c) (valB (bs.take 4) : Nat) ((bs.drop 4).take 16)) ∧ w.ownsRow B0 99 2 (.slice A n c) n (cellsE (esK S)) ∧ S.length = n ∧ vecB S = ((bs.drop 4).drop 16).take M
def RetTkC (f n M rb B xb : Nat) (bs : List Int) (w : World) (e : Ending) (w' : World) : Prop :=
 Exc (fun q => q = rb ∨ q = xb) w.heap.size w w' ∧
 ((∃ c, e = .panicked [{ v := .iface 192 (.agg #[.int .i64 c]), recovered := false }] ∧ (∃ xs, RdL w' rb B xs) ∧ TkErr f n M bs c) ∨
  (e = .returned (.tuple #[]) ∧ RdL w' rb B (((bs.drop 4).drop 16).drop M) ∧ TkRes f n M xb w.heap.size bs w'))

end Go.Proofs.Ytbakkmfjamcbfaa

namespace Go.Proofs.Ytbakkmfjamcbfaa
open Go.RowKit Fm
set_option linter.unusedVariables false
set_option maxRecDepth 100000

section
variable {f : Nat}


set_option maxHeartbeats 4000000 in
theorem take_A1
  (k f9 b l m c p : Int) (s : ByteArray) (n : Nat) (bs : List Int) (rb B xb tb fb : Nat) (w : World) (hR : RdL w rb B bs) (hX : Vs w xb (totL (.slice none 0 0) 0 z16)) (hT : Vs w tb [.int .u8 k, .int .u8 f, .int .i64 b, .int .i64 l, .int .i64 m, .int .i64 c, .int .i64 p, .string s]) (hF : Vs w fb [.int .u8 f])
    (hBx : B ≤ xb) (hne : xb ≠ rb ∧ tb ≠ rb ∧ fb ≠ rb ∧ xb ≠ tb ∧ xb ≠ fb) (h8 : B8 bs) (M : Nat) (hM : M = n * sizeK f) (hn : n ≤ 4096) (HO : ∀ wz, Calls Try.prog 32 #[.agg #[.int .u8 k, .int .u8 f, .int .i64 b, .int .i64 l, .int .i64 m, .int .i64 c]] wz (RetI n wz))
  (h4 : bs.length < 4) :
  Calls Try.prog 77 #[.pointer (some ⟨rb, 0, none⟩), .pointer (some ⟨xb, 0, none⟩), .pointer (some ⟨tb, 0, none⟩), .pointer (some ⟨fb, 0, none⟩)] w (RetTkC f n M rb B xb bs w) := by
 have HC := Lib.hid (reader_CountS rb B bs h4 w hR)
 go_enter Try.func77, Try.ntmps77
 go_wp2_with (go_at_call 78; refine HC.out.mono ?_; rintro e w2 ⟨rfl, hR2, hx2⟩)
 exact ⟨rfl, hx2.less (fun q _ h => .inl h), .inl ⟨3, rfl, hR2, .inl ⟨rfl, by omega⟩⟩⟩

set_option maxHeartbeats 4000000 in
theorem take_A2
  (k f9 b l m c p : Int) (s : ByteArray) (n : Nat) (bs : List Int) (rb B xb tb fb : Nat) (w : World) (hR : RdL w rb B bs) (hX : Vs w xb (totL (.slice none 0 0) 0 z16)) (hT : Vs w tb [.int .u8 k, .int .u8 f, .int .i64 b, .int .i64 l, .int .i64 m, .int .i64 c, .int .i64 p, .string s]) (hF : Vs w fb [.int .u8 f])
    (hBx : B ≤ xb) (hne : xb ≠ rb ∧ tb ≠ rb ∧ fb ≠ rb ∧ xb ≠ tb ∧ xb ≠ fb) (h8 : B8 bs) (M : Nat) (hM : M = n * sizeK f) (hn : n ≤ 4096) (HO : ∀ wz, Calls Try.prog 32 #[.agg #[.int .u8 k, .int .u8 f, .int .i64 b, .int .i64 l, .int .i64 m, .int .i64 c]] wz (RetI n wz))
  (h4 : 4 ≤ bs.length) (hv : ¬ valB (bs.take 4) ≤ 256) :
  Calls Try.prog 77 #[.pointer (some ⟨rb, 0, none⟩), .pointer (some ⟨xb, 0, none⟩), .pointer (some ⟨tb, 0, none⟩), .pointer (some ⟨fb, 0, none⟩)] w (RetTkC f n M rb B xb bs w) := by
 have HC := Lib.hid (reader_CountB rb B bs h4 h8 hv w hR)
 have HV := Lib.hid hv
 clear hv
 go_enter Try.func77, Try.ntmps77
 go_wp2_with (go_at_call 78; refine HC.out.mono ?_; rintro e w2 ⟨rfl, hR2, hx2⟩)
 exact ⟨rfl, hx2.less (fun q _ h => .inl h), .inl ⟨6, rfl, hR2, .inr (.inl ⟨rfl, h4, HV.out⟩)⟩⟩


set_option maxHeartbeats 4000000 in
theorem take_A3
  (k f9 b l m c p : Int) (s : ByteArray) (n : Nat) (bs : List Int) (rb B xb tb fb : Nat) (w : World) (hR : RdL w rb B bs) (hX : Vs w xb (totL (.slice none 0 0) 0 z16)) (hT : Vs w tb [.int .u8 k, .int .u8 f, .int .i64 b, .int .i64 l, .int .i64 m, .int .i64 c, .int .i64 p, .string s]) (hF : Vs w fb [.int .u8 f])
    (hBx : B ≤ xb) (hne : xb ≠ rb ∧ tb ≠ rb ∧ fb ≠ rb ∧ xb ≠ tb ∧ xb ≠ fb) (h8 : B8 bs) (M : Nat) (hM : M = n * sizeK f) (hn : n ≤ 4096) (HO : ∀ wz, Calls Try.prog 32 #[.agg #[.int .u8 k, .int .u8 f, .int .i64 b, .int .i64 l, .int .i64 m, .int .i64 c]] wz (RetI n wz))
  (h4 : 4 ≤ bs.length) (hl : bs.length < 20) (hv : valB (bs.take 4) ≤ 256) :
  Calls Try.prog 77 #[.pointer (some ⟨rb, 0, none⟩), .pointer (some ⟨xb, 0, none⟩), .pointer (some ⟨tb, 0, none⟩), .pointer (some ⟨fb, 0, none⟩)] w (RetTkC f n M rb B xb bs w) := by
 obtain ⟨n1, n2, n3, n4, n5⟩ := hne
 have HC := Lib.hid (reader_Count rb B bs h4 h8 hv w hR)
 have HV := Lib.hid hv
 have HOU := Lib.hid HO
 obtain ⟨vv, hvv⟩ : ∃ z, ((valB (bs.take 4) : Nat) : Int) = z := ⟨_, rfl⟩
 rw [hvv] at HC
 have HVV := Lib.hid hvv
 clear hv HO hvv
 go_enter Try.func77, Try.ntmps77
 go_upto_region 1 with (go_at_call 78; refine HC.out.mono ?_; rintro e w2 ⟨rfl, hR2, hx2⟩; have hX2 := hX.exc (S := fun q => q = rb) n1 hx2; have hT2 := hT.exc (S := fun q => q = rb) n2 hx2; have hF2 := hF.exc (S := fun q => q = rb) n3 hx2; obtain ⟨x0, x1, x2, x3, x4⟩ := hX2.tot)
 have hX3 := hX2.totPutM vv
 have hx3 : Exc (fun q => q = xb) w2.heap.size w2 (w2.setCell ⟨xb, 1, none⟩ (.int .i64 vv)) := exc_sc (S := fun q => q = xb) (exc_of (Below.refl _ _)) (.inl rfl) 1 _
 have hR3 := hR2.exc hx3 (by omega) hBx
 have hT3 := hT2.exc (S := fun q => q = xb) (by omega) hx3
 have hF3 := hF2.exc (S := fun q => q = xb) (by omega) hx3
 have HX3 := Lib.hid ((hx2.less (T := fun q => q = rb ∨ q = xb) (fun q _ h => .inl h)).more hx3 (fun q h => .inl (.inr h)))
 clear x0 x1 x2 x3 x4 hX2 hT2 hF2 hR2 hx2 hx3
 generalize w2.setCell ⟨xb, 1, none⟩ (.int .i64 vv) = w3 at hX3 hR3 hT3 hF3 HX3 ⊢
 have HRW := Lib.hid (fun wz (hz : RdL wz rb B (bs.drop 4)) => reader_RawS rb B (bs.drop 4) 16 (by rw [List.length_drop]; omega) (by omega) wz hz)
 refine region_X (fun wz => Below w3.heap.size w3 wz) (fun wz => Below w3.heap.size w3 wz) (fun _ h => h) (fun _ _ h hb => bl_call h (Nat.le_refl _) hb) ((Below.refl _ _).drew) (n := 4) (m := 5) (f := 4) (by kernel_rfl) (by kernel_rfl) rfl ?_
 refine WpX.vD 0 (some 11) ?_ rfl rfl (by kernel_rfl) (fun _ _ _ h => h) rfl (fun wz hwz => ?_) ?_
 rotate_left
 ·go_simp; try (with_reducible rfl)
 simp only [Zp, Zq, Zr, Zs]
 refine WpX.vD 1 (some 12) ?_ rfl rfl (by kernel_rfl) (fun _ _ _ h => h) rfl (fun wz hwz => ?_) ?_
 rotate_left
 ·go_simp; try (with_reducible rfl)
 simp only [Zp, Zq, Zr, Zs]
 refine WpX.vD 2 (some 13) ?_ rfl rfl (by kernel_rfl) (fun _ _ _ h => h) rfl (fun wz hwz => ?_) ?_
 rotate_left
 ·go_simp; try (with_reducible rfl)
 simp only [Zp, Zq, Zr, Zs]
 refine WpX.dieD 3 rfl (by kernel_rfl) rfl (fun wz hS => ?_) (fun wz hS => (HRW.out wz (hR3.call hS)).mono fun e w5 h9 => ?_)
 ·go_simp; try (with_reducible rfl)
 obtain ⟨rfl, hR5, hx5⟩ := h9
 exact ⟨_, rfl, rfl, HX3.out.more ((exc_of (S := fun q => q = rb) hS).trans (hx5.mono hS.size)) (fun q h => .inl (.inl h)), .inl ⟨3, rfl, hR5, .inl ⟨rfl, by omega⟩⟩⟩

variable (hf : IsF f)
include hf


set_option maxHeartbeats 8000000 in
theorem take_A4
  (k f9 b l m c p : Int) (s : ByteArray) (n : Nat) (bs : List Int) (rb B xb tb fb : Nat) (w : World) (hR : RdL w rb B bs) (hX : Vs w xb (totL (.slice none 0 0) 0 z16)) (hT : Vs w tb [.int .u8 k, .int .u8 f, .int .i64 b, .int .i64 l, .int .i64 m, .int .i64 c, .int .i64 p, .string s]) (hF : Vs w fb [.int .u8 f])
    (hBx : B ≤ xb) (hne : xb ≠ rb ∧ tb ≠ rb ∧ fb ≠ rb ∧ xb ≠ tb ∧ xb ≠ fb) (h8 : B8 bs) (M : Nat) (hM : M = n * sizeK f) (hn : n ≤ 4096) (HO : ∀ wz, Calls Try.prog 32 #[.agg #[.int .u8 k, .int .u8 f, .int .i64 b, .int .i64 l, .int .i64 m, .int .i64 c]] wz (RetI n wz))
  (hl : 20 ≤ bs.length) (hlM : bs.length < 20 + M) (hv : valB (bs.take 4) ≤ 256) :
  Calls Try.prog 77 #[.pointer (some ⟨rb, 0, none⟩), .pointer (some ⟨xb, 0, none⟩), .pointer (some ⟨tb, 0, none⟩), .pointer (some ⟨fb, 0, none⟩)] w (RetTkC f n M rb B xb bs w) := by
 have h4 : 4 ≤ bs.length := by omega
 obtain ⟨n1, n2, n3, n4, n5⟩ := hne
 have HC := Lib.hid (reader_Count rb B bs h4 h8 hv w hR)
 have HV := Lib.hid hv
 have HOU := Lib.hid HO
 obtain ⟨vv, hvv⟩ : ∃ z, ((valB (bs.take 4) : Nat) : Int) = z := ⟨_, rfl⟩
 rw [hvv] at HC
 have HVV := Lib.hid hvv
 clear hv HO hvv
 go_enter Try.func77, Try.ntmps77
 go_upto_region 1 with (go_at_call 78; refine HC.out.mono ?_; rintro e w2 ⟨rfl, hR2, hx2⟩; have hX2 := hX.exc (S := fun q => q = rb) n1 hx2; have hT2 := hT.exc (S := fun q => q = rb) n2 hx2; have hF2 := hF.exc (S := fun q => q = rb) n3 hx2; obtain ⟨x0, x1, x2, x3, x4⟩ := hX2.tot)
 have hX3 := hX2.totPutM vv
 have hx3 : Exc (fun q => q = xb) w2.heap.size w2 (w2.setCell ⟨xb, 1, none⟩ (.int .i64 vv)) := exc_sc (S := fun q => q = xb) (exc_of (Below.refl _ _)) (.inl rfl) 1 _
 have hR3 := hR2.exc hx3 (by omega) hBx
 have hT3 := hT2.exc (S := fun q => q = xb) (by omega) hx3
 have hF3 := hF2.exc (S := fun q => q = xb) (by omega) hx3
 have HX3 := Lib.hid ((hx2.less (T := fun q => q = rb ∨ q = xb) (fun q _ h => .inl h)).more hx3 (fun q h => .inl (.inr h)))
 clear x0 x1 x2 x3 x4 hX2 hT2 hF2 hR2 hx2 hx3
 generalize w2.setCell ⟨xb, 1, none⟩ (.int .i64 vv) = w3 at hX3 hR3 hT3 hF3 HX3 ⊢
 have HRW := Lib.hid (fun wz (hz : RdL wz rb B (bs.drop 4)) => reader_Raw rb B (bs.drop 4) 16 (by rw [List.length_drop]; omega) (by omega) wz hz)
 have H16 : Hid (((bs.drop 4).take 16).length = 16) := Lib.hid (by rw [List.length_take, List.length_drop]; omega)
 obtain ⟨kb, hkb⟩ : ∃ z, ((bs.drop 4).take 16) = z := ⟨_, rfl⟩
 obtain ⟨rest, hrest⟩ : ∃ z, ((bs.drop 4).drop 16) = z := ⟨_, rfl⟩
 have HRL : Hid (rest.length = bs.length - 20) := Lib.hid (by rw [← hrest, List.length_drop, List.length_drop]; omega)
 have HB2 : Hid (B8 rest) := Lib.hid fun x hx => by
  rw [← hrest] at hx
  exact h8 x (List.mem_of_mem_drop (List.mem_of_mem_drop hx))
 rw [hkb, hrest] at HRW
 rw [hkb] at H16
 have HKB := Lib.hid hkb
 have HRE := Lib.hid hrest
 have hM9 : M ≤ 4096 * 16 := by
  rw [hM]
  exact Nat.mul_le_mul hn (by unfold sizeK; split <;> omega)
 have HMM := Lib.hid hM
 clear hkb hrest hM
 apply region_Z1 (n := 4) (m := 5) (f := 4) (fun x0 => (RjK w3 rb B (bs.drop 4) rest kb) (some x0) ) ((RjT w3 rb) none) ((RjK w3 rb B (bs.drop 4) rest kb) none) ((RjK.weak _)) (RjK.clo) ((RjK.start hR3))
 case hm => kernel_rfl
 case hB => kernel_rfl
 case hf => rfl
 case' h =>
  refine WpX.vD 0 (some 11) ?_ rfl rfl (by kernel_rfl) (fun _ _ _ h => h) rfl (fun wz hwz => ?_) ?_
  rotate_left
  ·go_simp; try (with_reducible rfl)
  simp only [Zp, Zq, Zr, Zs]
  refine WpX.vD 1 (some 12) ?_ rfl rfl (by kernel_rfl) (fun _ _ _ h => h) rfl (fun wz hwz => ?_) ?_
  rotate_left
  ·go_simp; try (with_reducible rfl)
  simp only [Zp, Zq, Zr, Zs]
  refine WpX.vD 2 (some 13) ?_ rfl rfl (by kernel_rfl) (fun _ _ _ h => h) rfl (fun wz hwz => ?_) ?_
  rotate_left
  ·go_simp; try (with_reducible rfl)
  simp only [Zp, Zq, Zr, Zs]
  refine WpX.oneD 3 (some 14) rfl rfl (by kernel_rfl) (fun pr : Option Addr × Nat => Value.slice pr.1 16 pr.2) (fun pr => (RjT w3 rb) (some pr)) (fun pr => (RjK w3 rb B (bs.drop 4) rest kb) (some pr)) (Turns.call rfl (fun _ _ h => h) (fun _ => (RjK.weak _)) (fun _ => RjK.clo) (fun wz hS => (HRW.out wz (hS.a rfl)).mono fun e w' hr => by have h9 := hS.took hr; rw [H16.out] at h9; exact h9) (fun wz hS => by go_simp; try (with_reducible rfl))) (fun pr => ?_)
  simp only [Zp, Zq, Zr, Zs]
  refine WpX.done (by kernel_rfl) (fun w4 hZ => ⟨pr, rfl, ?_⟩)
  ·exact hZ
 intro pr w4 hZ
 (try simp only [List.drop_succ_cons]); (try simp only [List.drop_zero]); (try simp only [Nat.reduceSub]); (try simp only [List.take_succ_cons]); (try simp only [List.take_zero])
 obtain ⟨hR4, hrow4⟩ := hZ.b pr rfl
 rw [H16.out] at hrow4
 have hX4 := hX3.exc (S := fun q => q = rb) n1 hZ.t
 have hT4 := hT3.exc (S := fun q => q = rb) n2 hZ.t
 have hF4 := hF3.exc (S := fun q => q = rb) n3 hZ.t
 have HX4 := Lib.hid (HX3.out.more hZ.t (fun q h => .inl (.inl h)))
 clear hX3 hT3 hF3 hR3 hZ HX3
 obtain ⟨pa, pc⟩ := pr
 dsimp only at hrow4 ⊢
 obtain ⟨gb, rfl, hrb4⟩ := own_src0 hrow4 (by omega)
 refine wpList_copyT rfl (.tmp 12) (.tmp 14) _ _ rfl (by kernel_rfl) xb 16 gb pc _ _ (by kernel_rfl) (by kernel_rfl) kb z16 H16.out z16_length hX4 hrb4 ?_
 have hX5 := hX4.copyT (k2 := kb) (by rw [H16.out, z16_length])
 have hx5 : Exc (fun q => q = xb) w4.heap.size w4 (w4.setCells xb 2 (cells8 kb)) := exc_setCells (S := fun q => q = xb) xb rfl _ 2 w4 (exc_of (Below.refl _ _))
 have hR5 := hR4.exc hx5 (by omega) hBx
 have hT5 := hT4.exc (S := fun q => q = xb) (by omega) hx5
 have hF5 := hF4.exc (S := fun q => q = xb) (by omega) hx5
 have HX5 := Lib.hid (HX4.out.more hx5 (fun q h => .inl (.inr h)))
 clear hX4 hT4 hF4 hR4 hrow4 hrb4 hx5 HX4
 generalize w4.setCells xb 2 (cells8 kb) = w5 at hX5 hR5 hT5 hF5 HX5 ⊢
 obtain ⟨SK, hSK⟩ : ∃ SK, sizeK f = SK := ⟨_, rfl⟩
 have HSZ := Lib.hid (field_Size hf)
 rw [hSK] at HSZ
 have hmul : (n : Int) * (SK : Int) = (M : Int) := by rw [HMM.out, hSK, Int.natCast_mul]
 have hwm : IntKind.i64.wrap (M : Int) = (M : Int) := IntWalk.i64_in _ (by omega)
 clear hSK
 obtain ⟨⟨T50, T51, T52, T53, T54, T55, T56, T57⟩, ⟨T58, T59, T510, T511, T512, T513, T514, T515⟩, T516⟩ := hT5.get8
 go_upto_region 3 with (go_at_call 32; refine (HOU.out _).mono ?_; rintro e w6 ⟨rfl, hb6⟩)
 have hX6 := hX5.call hb6
 have hT6 := hT5.call hb6
 have hF6 := hF5.call hb6
 have hR6 := hR5.call hb6
 have HX6 := Lib.hid (HX5.out.call hb6)
 clear hX5 hT5 hF5 hR5 hb6 HX5
 have HR2 := Lib.hid (fun wz (hz : RdL wz rb B rest) => reader_RawS rb B rest M (by rw [HRL.out]; omega) (by omega) wz hz)
 refine region_X (fun wz => Below w6.heap.size w6 wz) (fun wz => Below w6.heap.size w6 wz) (fun _ h => h) (fun _ _ h hb => bl_call h (Nat.le_refl _) hb) ((Below.refl _ _).drew) (n := 13) (m := 14) (f := 13) (by kernel_rfl) (by kernel_rfl) rfl ?_
 refine WpX.vD 0 (some 20) ?_ rfl rfl (by kernel_rfl) (fun _ _ _ h => h) rfl (fun wz hwz => ?_) ?_
 rotate_left
 ·(have hz := (hF6.call hwz).get1; obtain ⟨z0, z1, z2⟩ := hz; go_simp; try (with_reducible rfl))
 simp only [Zp, Zq, Zr, Zs]
 refine WpX.vD 1 (some 21) ?_ rfl rfl (by kernel_rfl) (fun _ _ _ h => h) rfl (fun wz hwz => ?_) ?_
 rotate_left
 ·go_simp; try (with_reducible rfl)
 simp only [Zp, Zq, Zr, Zs]
 refine WpX.vD 2 (some 22) ?_ rfl rfl (by kernel_rfl) (fun _ _ _ h => h) rfl (fun wz hwz => ?_) ?_
 rotate_left
 ·go_simp; try (with_reducible rfl)
 simp only [Zp, Zq, Zr, Zs]
 refine WpX.vD 3 (some 23) ?_ rfl rfl (by kernel_rfl) (fun _ _ _ h => h) rfl (fun wz hwz => ?_) ?_
 rotate_left
 ·(have hz := (hF6.call hwz).get1; obtain ⟨z0, z1, z2⟩ := hz; go_simp; try (with_reducible rfl))
 simp only [Zp, Zq, Zr, Zs]
 refine WpX.takeD 4 (some 24) rfl rfl (by kernel_rfl) (fun _ _ _ h => h) (.call rfl (fun wz hwz => ((HSZ.out wz).mono fun e w' ⟨he, hw⟩ => ⟨he, hw ▸ Below.refl _ _⟩)) (fun wz hwz => ?_)) ?_
 ·go_simp; try (with_reducible rfl)
 simp only [Zp, Zq, Zr, Zs]
 refine WpX.vD 5 (some 25) ?_ rfl rfl (by kernel_rfl) (fun _ _ _ h => h) rfl (fun wz hwz => ?_) ?_
 rotate_left
 ·go_simp; try (with_reducible rfl)
 simp only [Zp, Zq, Zr, Zs]
 refine WpX.vD 7 (some 27) ?_ rfl rfl (by kernel_rfl) (fun _ _ _ h => h) rfl (fun wz hwz => ?_) ?_
 rotate_left
 ·go_simp; try (with_reducible rfl)
 simp only [Zp, Zq, Zr, Zs]
 refine WpX.dieD 6 rfl (by kernel_rfl) rfl (fun wz hS => ?_) (fun wz hS => (HR2.out wz (hR6.call hS)).mono fun e w8 h9 => ?_)
 ·go_simp; try (with_reducible rfl)
 obtain ⟨rfl, hR8, hx8⟩ := h9
 exact ⟨_, rfl, rfl, HX6.out.more ((exc_of (S := fun q => q = rb) hS).trans (hx8.mono hS.size)) (fun q h => .inl (.inl h)), .inl ⟨3, rfl, hR8, .inl ⟨rfl, hlM⟩⟩⟩

set_option maxHeartbeats 8000000 in
theorem take_A5
  (k f9 b l m c p : Int) (s : ByteArray) (n : Nat) (bs : List Int) (rb B xb tb fb : Nat) (w : World) (hR : RdL w rb B bs) (hX : Vs w xb (totL (.slice none 0 0) 0 z16)) (hT : Vs w tb [.int .u8 k, .int .u8 f, .int .i64 b, .int .i64 l, .int .i64 m, .int .i64 c, .int .i64 p, .string s]) (hF : Vs w fb [.int .u8 f])
    (hBx : B ≤ xb) (hne : xb ≠ rb ∧ tb ≠ rb ∧ fb ≠ rb ∧ xb ≠ tb ∧ xb ≠ fb) (h8 : B8 bs) (M : Nat) (hM : M = n * sizeK f) (hn : n ≤ 4096) (HO : ∀ wz, Calls Try.prog 32 #[.agg #[.int .u8 k, .int .u8 f, .int .i64 b, .int .i64 l, .int .i64 m, .int .i64 c]] wz (RetI n wz))
  (hlM : 20 + M ≤ bs.length) (hv : valB (bs.take 4) ≤ 256) :
  Calls Try.prog 77 #[.pointer (some ⟨rb, 0, none⟩), .pointer (some ⟨xb, 0, none⟩), .pointer (some ⟨tb, 0, none⟩), .pointer (some ⟨fb, 0, none⟩)] w (RetTkC f n M rb B xb bs w) := by
 have h4 : 4 ≤ bs.length := by omega
 obtain ⟨n1, n2, n3, n4, n5⟩ := hne
 have HC := Lib.hid (reader_Count rb B bs h4 h8 hv w hR)
 have HV := Lib.hid hv
 have HOU := Lib.hid HO
 obtain ⟨vv, hvv⟩ : ∃ z, ((valB (bs.take 4) : Nat) : Int) = z := ⟨_, rfl⟩
 rw [hvv] at HC
 have HVV := Lib.hid hvv
 clear hv HO hvv
 go_enter Try.func77, Try.ntmps77
 go_upto_region 1 with (go_at_call 78; refine HC.out.mono ?_; rintro e w2 ⟨rfl, hR2, hx2⟩; have hX2 := hX.exc (S := fun q => q = rb) n1 hx2; have hT2 := hT.exc (S := fun q => q = rb) n2 hx2; have hF2 := hF.exc (S := fun q => q = rb) n3 hx2; obtain ⟨x0, x1, x2, x3, x4⟩ := hX2.tot)
 have hX3 := hX2.totPutM vv
 have hx3 : Exc (fun q => q = xb) w2.heap.size w2 (w2.setCell ⟨xb, 1, none⟩ (.int .i64 vv)) := exc_sc (S := fun q => q = xb) (exc_of (Below.refl _ _)) (.inl rfl) 1 _
 have hR3 := hR2.exc hx3 (by omega) hBx
 have hT3 := hT2.exc (S := fun q => q = xb) (by omega) hx3
 have hF3 := hF2.exc (S := fun q => q = xb) (by omega) hx3
 have HX3 := Lib.hid ((hx2.less (T := fun q => q = rb ∨ q = xb) (fun q _ h => .inl h)).more hx3 (fun q h => .inl (.inr h)))
 clear x0 x1 x2 x3 x4 hX2 hT2 hF2 hR2 hx2 hx3
 generalize w2.setCell ⟨xb, 1, none⟩ (.int .i64 vv) = w3 at hX3 hR3 hT3 hF3 HX3 ⊢
 have HRW := Lib.hid (fun wz (hz : RdL wz rb B (bs.drop 4)) => reader_Raw rb B (bs.drop 4) 16 (by rw [List.length_drop]; omega) (by omega) wz hz)
 have H16 : Hid (((bs.drop 4).take 16).length = 16) := Lib.hid (by rw [List.length_take, List.length_drop]; omega)
 obtain ⟨kb, hkb⟩ : ∃ z, ((bs.drop 4).take 16) = z := ⟨_, rfl⟩
 obtain ⟨rest, hrest⟩ : ∃ z, ((bs.drop 4).drop 16) = z := ⟨_, rfl⟩
 have HRL : Hid (rest.length = bs.length - 20) := Lib.hid (by rw [← hrest, List.length_drop, List.length_drop]; omega)
 have HB2 : Hid (B8 rest) := Lib.hid fun x hx => by
  rw [← hrest] at hx
  exact h8 x (List.mem_of_mem_drop (List.mem_of_mem_drop hx))
 rw [hkb, hrest] at HRW
 rw [hkb] at H16
 have HKB := Lib.hid hkb
 have HRE := Lib.hid hrest
 have hM9 : M ≤ 4096 * 16 := by
  rw [hM]
  exact Nat.mul_le_mul hn (by unfold sizeK; split <;> omega)
 have HMM := Lib.hid hM
 clear hkb hrest hM
 apply region_Z1 (n := 4) (m := 5) (f := 4) (fun x0 => (RjK w3 rb B (bs.drop 4) rest kb) (some x0) ) ((RjT w3 rb) none) ((RjK w3 rb B (bs.drop 4) rest kb) none) ((RjK.weak _)) (RjK.clo) ((RjK.start hR3))
 case hm => kernel_rfl
 case hB => kernel_rfl
 case hf => rfl
 case' h =>
  refine WpX.vD 0 (some 11) ?_ rfl rfl (by kernel_rfl) (fun _ _ _ h => h) rfl (fun wz hwz => ?_) ?_
  rotate_left
  ·go_simp; try (with_reducible rfl)
  simp only [Zp, Zq, Zr, Zs]
  refine WpX.vD 1 (some 12) ?_ rfl rfl (by kernel_rfl) (fun _ _ _ h => h) rfl (fun wz hwz => ?_) ?_
  rotate_left
  ·go_simp; try (with_reducible rfl)
  simp only [Zp, Zq, Zr, Zs]
  refine WpX.vD 2 (some 13) ?_ rfl rfl (by kernel_rfl) (fun _ _ _ h => h) rfl (fun wz hwz => ?_) ?_
  rotate_left
  ·go_simp; try (with_reducible rfl)
  simp only [Zp, Zq, Zr, Zs]
  refine WpX.oneD 3 (some 14) rfl rfl (by kernel_rfl) (fun pr : Option Addr × Nat => Value.slice pr.1 16 pr.2) (fun pr => (RjT w3 rb) (some pr)) (fun pr => (RjK w3 rb B (bs.drop 4) rest kb) (some pr)) (Turns.call rfl (fun _ _ h => h) (fun _ => (RjK.weak _)) (fun _ => RjK.clo) (fun wz hS => (HRW.out wz (hS.a rfl)).mono fun e w' hr => by have h9 := hS.took hr; rw [H16.out] at h9; exact h9) (fun wz hS => by go_simp; try (with_reducible rfl))) (fun pr => ?_)
  simp only [Zp, Zq, Zr, Zs]
  refine WpX.done (by kernel_rfl) (fun w4 hZ => ⟨pr, rfl, ?_⟩)
  ·exact hZ
 intro pr w4 hZ
 (try simp only [List.drop_succ_cons]); (try simp only [List.drop_zero]); (try simp only [Nat.reduceSub]); (try simp only [List.take_succ_cons]); (try simp only [List.take_zero])
 obtain ⟨hR4, hrow4⟩ := hZ.b pr rfl
 rw [H16.out] at hrow4
 have hX4 := hX3.exc (S := fun q => q = rb) n1 hZ.t
 have hT4 := hT3.exc (S := fun q => q = rb) n2 hZ.t
 have hF4 := hF3.exc (S := fun q => q = rb) n3 hZ.t
 have HX4 := Lib.hid (HX3.out.more hZ.t (fun q h => .inl (.inl h)))
 clear hX3 hT3 hF3 hR3 hZ HX3
 obtain ⟨pa, pc⟩ := pr
 dsimp only at hrow4 ⊢
 obtain ⟨gb, rfl, hrb4⟩ := own_src0 hrow4 (by omega)
 refine wpList_copyT rfl (.tmp 12) (.tmp 14) _ _ rfl (by kernel_rfl) xb 16 gb pc _ _ (by kernel_rfl) (by kernel_rfl) kb z16 H16.out z16_length hX4 hrb4 ?_
 have hX5 := hX4.copyT (k2 := kb) (by rw [H16.out, z16_length])
 have hx5 : Exc (fun q => q = xb) w4.heap.size w4 (w4.setCells xb 2 (cells8 kb)) := exc_setCells (S := fun q => q = xb) xb rfl _ 2 w4 (exc_of (Below.refl _ _))
 have hR5 := hR4.exc hx5 (by omega) hBx
 have hT5 := hT4.exc (S := fun q => q = xb) (by omega) hx5
 have hF5 := hF4.exc (S := fun q => q = xb) (by omega) hx5
 have HX5 := Lib.hid (HX4.out.more hx5 (fun q h => .inl (.inr h)))
 clear hX4 hT4 hF4 hR4 hrow4 hrb4 hx5 HX4
 generalize w4.setCells xb 2 (cells8 kb) = w5 at hX5 hR5 hT5 hF5 HX5 ⊢
 obtain ⟨SK, hSK⟩ : ∃ SK, sizeK f = SK := ⟨_, rfl⟩
 have HSZ := Lib.hid (field_Size hf)
 rw [hSK] at HSZ
 have hmul : (n : Int) * (SK : Int) = (M : Int) := by rw [HMM.out, hSK, Int.natCast_mul]
 have hwm : IntKind.i64.wrap (M : Int) = (M : Int) := IntWalk.i64_in _ (by omega)
 clear hSK
 obtain ⟨⟨T50, T51, T52, T53, T54, T55, T56, T57⟩, ⟨T58, T59, T510, T511, T512, T513, T514, T515⟩, T516⟩ := hT5.get8
 go_upto_region 3 with (go_at_call 32; refine (HOU.out _).mono ?_; rintro e w6 ⟨rfl, hb6⟩)
 have hX6 := hX5.call hb6
 have hT6 := hT5.call hb6
 have hF6 := hF5.call hb6
 have hR6 := hR5.call hb6
 have HX6 := Lib.hid (HX5.out.call hb6)
 clear hX5 hT5 hF5 hR5 hb6 HX5
 have HR2 := Lib.hid (fun wz (hz : RdL wz rb B rest) => reader_Raw rb B rest M (by rw [HRL.out]; omega) (by omega) wz hz)
 have HML : Hid ((rest.take M).length = M) := Lib.hid (by rw [List.length_take, HRL.out]; omega)
 have HTV := Lib.hid (fun (p : Option Addr × Nat) (B0 : Nat) wz (ho : wz.ownsRow B0 5 1 (.slice p.1 M p.2) M (cells8 (rest.take M))) => field_TakeVec hf (rest.take M) n M HML.out HMM.out hn (fun x hx => HB2.out x (List.mem_of_mem_take hx)) p.1 p.2 ⟨(own_cap ho).1, (own_cap ho).2.1⟩ wz (fun hp => by
  obtain ⟨b, e1, e2, e3⟩ := (own_cap ho).2.2 hp
  exact ⟨b, 0, e1, e2, e3⟩))
 obtain ⟨vb, hvb⟩ : ∃ z, rest.take M = z := ⟨_, rfl⟩
 obtain ⟨rest2, hre2⟩ : ∃ z, rest.drop M = z := ⟨_, rfl⟩
 rw [hvb, hre2] at HR2
 rw [hvb] at HML HTV
 have HVB := Lib.hid hvb
 have HR9 := Lib.hid hre2
 clear hvb hre2
 apply region_Z2 (n := 13) (m := 14) (f := 13) (fun x0 x1 => (RkK w6 rb B rest rest2 vb f n) (some x0) (some x1) ) ((RkT w6 rb) none none) ((RkK w6 rb B rest rest2 vb f n) none none) ((RkK.weak _ _)) (RkK.clo) ((RkK.start hR6))
 case hm => kernel_rfl
 case hB => kernel_rfl
 case hf => rfl
 case' h =>
  refine WpX.vD 0 (some 20) ?_ rfl rfl (by kernel_rfl) (fun _ _ _ h => h) rfl (fun wz hwz => ?_) ?_
  rotate_left
  ·(have hz := (hF6.exc (S := fun q => q = rb) n3 hwz).get1; obtain ⟨z0, z1, z2⟩ := hz; go_simp; try (with_reducible rfl))
  simp only [Zp, Zq, Zr, Zs]
  refine WpX.vD 1 (some 21) ?_ rfl rfl (by kernel_rfl) (fun _ _ _ h => h) rfl (fun wz hwz => ?_) ?_
  rotate_left
  ·go_simp; try (with_reducible rfl)
  simp only [Zp, Zq, Zr, Zs]
  refine WpX.vD 2 (some 22) ?_ rfl rfl (by kernel_rfl) (fun _ _ _ h => h) rfl (fun wz hwz => ?_) ?_
  rotate_left
  ·go_simp; try (with_reducible rfl)
  simp only [Zp, Zq, Zr, Zs]
  refine WpX.vD 3 (some 23) ?_ rfl rfl (by kernel_rfl) (fun _ _ _ h => h) rfl (fun wz hwz => ?_) ?_
  rotate_left
  ·(have hz := (hF6.exc (S := fun q => q = rb) n3 hwz).get1; obtain ⟨z0, z1, z2⟩ := hz; go_simp; try (with_reducible rfl))
  simp only [Zp, Zq, Zr, Zs]
  refine WpX.takeD 4 (some 24) rfl rfl (by kernel_rfl) (fun _ _ _ h => h) (.call rfl (fun wz hwz => ((HSZ.out wz).mono fun e w' ⟨he, hw⟩ => ⟨he, hw ▸ Below.refl _ _⟩)) (fun wz hwz => ?_)) ?_
  ·go_simp; try (with_reducible rfl)
  simp only [Zp, Zq, Zr, Zs]
  refine WpX.vD 5 (some 25) ?_ rfl rfl (by kernel_rfl) (fun _ _ _ h => h) rfl (fun wz hwz => ?_) ?_
  rotate_left
  ·go_simp; try (with_reducible rfl)
  simp only [Zp, Zq, Zr, Zs]
  refine WpX.vD 7 (some 27) ?_ rfl rfl (by kernel_rfl) (fun _ _ _ h => h) rfl (fun wz hwz => ?_) ?_
  rotate_left
  ·go_simp; try (with_reducible rfl)
  simp only [Zp, Zq, Zr, Zs]
  refine WpX.oneD 6 (some 26) rfl rfl (by kernel_rfl) (fun pr : Option Addr × Nat => Value.slice pr.1 M pr.2) (fun pr => (RkT w6 rb) (some pr) none) (fun pr => (RkK w6 rb B rest rest2 vb f n) (some pr) none) (Turns.call rfl (fun _ _ h => h) (fun _ => (RkK.weak _ _)) (fun _ => RkK.clo) (fun wz hS => (HR2.out wz (hS.k.a rfl)).mono fun e w' hr => by have h9 := hS.took hr; rw [HML.out] at h9; exact h9) (fun wz hS => by go_simp; try (with_reducible rfl))) (fun pr => ?_)
  simp only [Zp, Zq, Zr, Zs]
  refine WpX.oneD 8 (some 28) rfl rfl (by kernel_rfl) (fun qt : TvQ => Value.tuple #[.slice qt.1 qt.2.1 qt.2.2.1, .int .i64 qt.2.2.2]) (fun qt => (RkT w6 rb) (some pr) (some qt)) (fun qt => (RkK w6 rb B rest rest2 vb f n) (some pr) (some qt)) (Turns.call rfl (fun _ _ h => h) (fun _ => (RkK.weak _ _)) (fun _ => RkK.clo) (fun wz hS => (HTV.out pr _ wz (by have h9 := (hS.k.b pr rfl).2; rw [HML.out] at h9; exact h9)).mono fun e w' hr => hS.vec hr) (fun wz hS => by go_simp; try (with_reducible rfl))) (fun qt => ?_)
  simp only [Zp, Zq, Zr, Zs]
  refine WpX.vD 9 (some 19) ?_ rfl rfl (by kernel_rfl) (fun _ _ _ h => h) rfl (fun wz hwz => ?_) ?_
  rotate_left
  ·go_simp; try (with_reducible rfl)
  simp only [Zp, Zq, Zr, Zs]
  refine WpX.vD 10 (some 29) ?_ rfl rfl (by kernel_rfl) (fun _ _ _ h => h) rfl (fun wz hwz => ?_) ?_
  rotate_left
  ·go_simp; try (with_reducible rfl)
  simp only [Zp, Zq, Zr, Zs]
  refine WpX.vD 11 (some 30) ?_ rfl rfl (by kernel_rfl) (fun _ _ _ h => h) rfl (fun wz hwz => ?_) ?_
  rotate_left
  ·go_simp; try (with_reducible rfl)
  simp only [Zp, Zq, Zr, Zs]
  refine WpX.vD 12 (some 6) ?_ rfl rfl (by kernel_rfl) (fun _ _ _ h => h) rfl (fun wz hwz => ?_) ?_
  rotate_left
  ·go_simp; try (with_reducible rfl)
  simp only [Zp, Zq, Zr, Zs]
  refine WpX.done (by kernel_rfl) (fun w7 hZ => ⟨pr, qt, rfl, ?_⟩)
  ·exact hZ
 intro pr qt w7 hZ
 (try simp only [List.drop_succ_cons]); (try simp only [List.drop_zero]); (try simp only [Nat.reduceSub]); (try simp only [List.take_succ_cons]); (try simp only [List.take_zero])
 have hR7 := (hZ.k.b pr rfl).1
 have hq7 := hZ.q qt rfl
 have hX7 := hX6.exc (S := fun q => q = rb) n1 hZ.k.t
 have HX7 := Lib.hid (HX6.out.more hZ.k.t (fun q h => .inl (.inl h)))
 have hxlt := hX6.lt
 have hs6 := HX6.out.size
 clear hZ hX6 hT6 hF6 hR6 HX6
 obtain ⟨qa, qn, qc, qe⟩ := qt
 dsimp only at hq7 ⊢
 rcases hq7 with ⟨S, e1, e2, hSl, hSv, hown⟩ | ⟨e1, e2, e3, e4, hno⟩
 ·dsimp only at e1 e2 hown
  subst e1 e2
  have HF0 := Lib.hid (reader_Fail0 rb B rest2 w7 hR7)
  obtain ⟨x0, x1, x2, x3, x4⟩ := hX7.tot
  go_wp2_with (go_at_call 82; refine HF0.out.mono ?_; rintro e w8 ⟨rfl, rfl⟩)
  have hX8 : Vs (w8.setCell ⟨xb, 0, none⟩ (.slice qa qn qc)) xb (totL (.slice qa qn qc) vv kb) := hX7.put 0 (Nat.zero_lt_succ _) _
  have hx8 : Exc (fun q => q = xb) w8.heap.size w8 (w8.setCell ⟨xb, 0, none⟩ (.slice qa qn qc)) := exc_sc (S := fun q => q = xb) (exc_of (Below.refl _ _)) (.inl rfl) 0 _
  have hR8 := hR7.exc hx8 (by omega) hBx
  refine end_none Try.results77 rfl ⟨HX7.out.more hx8 (fun q h => .inl (.inr h)), .inr ⟨rfl, ?_, hlM, HV.out, qa, qc, S, ?_, ?_, hSl, ?_⟩⟩
  ·rw [HRE.out, HR9.out]
   exact hR8
  ·rw [HKB.out, HVV.out]
   exact hX8
  ·exact own_lower (own_other hown hx8 (fun g hg e => by
    have h1 := (hown.lt g hg).1
    omega)) hs6
  ·rw [HRE.out, HVB.out]
   exact hSv
 ·dsimp only at e1 e2 e3 e4
  subst e1 e2 e3 e4
  have HF7 := Lib.hid (reader_Fail rb B rest2 7 rfl w7 hR7)
  have HNO := Lib.hid hno
  clear hno
  go_wp2_with (go_at_call 82; refine HF7.out.mono ?_; rintro e w8 ⟨rfl, rfl⟩)
  refine ⟨rfl, HX7.out, .inl ⟨7, rfl, ⟨_, hR7⟩, .inr (.inr ⟨rfl, hlM, ?_⟩)⟩⟩
  rw [HRE.out, HVB.out]
  exact HNO.out

theorem take_Clo
  (k f9 b l m c p : Int) (s : ByteArray) (n : Nat) (bs : List Int) (rb B xb tb fb : Nat) (w : World) (hR : RdL w rb B bs) (hX : Vs w xb (totL (.slice none 0 0) 0 z16)) (hT : Vs w tb [.int .u8 k, .int .u8 f, .int .i64 b, .int .i64 l, .int .i64 m, .int .i64 c, .int .i64 p, .string s]) (hF : Vs w fb [.int .u8 f])
    (hBx : B ≤ xb) (hne : xb ≠ rb ∧ tb ≠ rb ∧ fb ≠ rb ∧ xb ≠ tb ∧ xb ≠ fb) (h8 : B8 bs) (M : Nat) (hM : M = n * sizeK f) (hn : n ≤ 4096) (HO : ∀ wz, Calls Try.prog 32 #[.agg #[.int .u8 k, .int .u8 f, .int .i64 b, .int .i64 l, .int .i64 m, .int .i64 c]] wz (RetI n wz))
  :
  Calls Try.prog 77 #[.pointer (some ⟨rb, 0, none⟩), .pointer (some ⟨xb, 0, none⟩), .pointer (some ⟨tb, 0, none⟩), .pointer (some ⟨fb, 0, none⟩)] w (RetTkC f n M rb B xb bs w) := by
 by_cases h4 : bs.length < 4
 ·exact take_A1 k f9 b l m c p s n bs rb B xb tb fb w hR hX hT hF hBx hne h8 M hM hn HO h4
 ·by_cases hv : valB (bs.take 4) ≤ 256
  ·by_cases hl : bs.length < 20
   ·exact take_A3 k f9 b l m c p s n bs rb B xb tb fb w hR hX hT hF hBx hne h8 M hM hn HO (by omega) hl hv
   ·by_cases hlM : bs.length < 20 + M
    ·exact take_A4 hf k f9 b l m c p s n bs rb B xb tb fb w hR hX hT hF hBx hne h8 M hM hn HO (by omega) hlM hv
    ·exact take_A5 hf k f9 b l m c p s n bs rb B xb tb fb w hR hX hT hF hBx hne h8 M hM hn HO (by omega) hv
  ·exact take_A2 k f9 b l m c p s n bs rb B xb tb fb w hR hX hT hF hBx hne h8 M hM hn HO (by omega) hv
end

end Go.Proofs.Ytbakkmfjamcbfaa

namespace Go.Proofs.Ytbakkmfjamcbfaa
open Go.RowKit Fm
set_option linter.unusedVariables false
set_option maxRecDepth 100000

def RetTake (f n M : Nat) (bs : List Int) (w : World) (e : Ending) (w' : World) : Prop :=
 (∃ c, c ≠ 0 ∧ RetT0 c w e w' ∧ (TkErr f n M bs c ∨ (c = 27 ∧ 20 + M < bs.length))) ∨
 (∃ (A : Option Addr) (c : Nat) (S : KL f), e = .returned (.tuple #[.agg (totL (.slice A n c) (valB (bs.take 4) : Nat) ((bs.drop 4).take 16)).toArray, .int .i64 0]) ∧ w'.ownsRow w.heap.size 99 2 (.slice A n c) n (cellsE (esK S)) ∧ S.length = n ∧ vecB S = ((bs.drop 4).drop 16).take M ∧ bs.length = 20 + M ∧ valB (bs.take 4) ≤ 256 ∧ Below w.heap.size w w')

theorem ent_Take (args : Array Value) (wz : World) : (callFunc 77 args).run Try.prog wz = .ok (.enter 77 args) wz := by kernel_rfl


section
variable {f : Nat} (hf : IsF f)
include hf

set_option maxHeartbeats 4000000 in
theorem total_Take (k b l m c p : Int) (s : ByteArray) (n : Nat) (hn : n ≤ 4096) (M : Nat) (hM : M = n * sizeK f) (bs : List Int) (h8 : B8 bs)
  (HC : ∀ wz, Calls Try.prog 43 #[.agg #[.int .u8 k, .int .u8 f, .int .i64 b, .int .i64 l, .int .i64 m, .int .i64 c, .int .i64 p, .string s]] wz (RetC 0 wz))
  (HO : ∀ wz, Calls Try.prog 32 #[.agg #[.int .u8 k, .int .u8 f, .int .i64 b, .int .i64 l, .int .i64 m, .int .i64 c]] wz (RetI n wz))
  (A : Option Addr) (cc : Nat) (w : World) (hcc : bs.length ≤ cc ∧ cc ≤ 9223372036854775807) (hrow : 0 < bs.length → ∃ b o, A = some ⟨b, o, none⟩ ∧ b < w.heap.size ∧ RowB w b o bs) :
  Calls Try.prog 42 #[.agg #[.int .u8 k, .int .u8 f, .int .i64 b, .int .i64 l, .int .i64 m, .int .i64 c, .int .i64 p, .string s], .slice A bs.length cc] w (RetTake f n M bs w) := by
 have HC := Lib.hid HC
 have HO := Lib.hid HO
 have H8 := Lib.hid h8
 have HM := Lib.hid hM
 have HCC := Lib.hid hcc
 have HROW := Lib.hid hrow
 have hmf : ∀ (fn : Fn) (first cap : Array Value) (w : World), (Instr.makeFunc fn first cap).run Try.prog w = .ok (.func fn first cap) w := fun _ _ _ _ => rfl
 obtain ⟨ln, hln⟩ : ∃ z, bs.length = z := ⟨_, rfl⟩
 have HLN := Lib.hid hln
 rw [hln]
 have hF0 : (0 : Int) ≤ (f : Int) ∧ (f : Int) ≤ 2 := by rcases hf.or with rfl | rfl <;> omega
 clear h8 hM hcc hrow hln
 go_enter Try.func42, Try.ntmps42
 go_upto_region 1 with fail
 have hT := (Vs.new w [.int .u8 k, .int .u8 f, .int .i64 b, .int .i64 l, .int .i64 m, .int .i64 c, .int .i64 p, .string s] #[.int .u8 k, .int .u8 f, .int .i64 b, .int .i64 l, .int .i64 m, .int .i64 c, .int .i64 p, .string s] 62 rfl).alloc (.cells #[.slice none 0 0, .int .i64 0, .int .u8 0, .int .u8 0, .int .u8 0, .int .u8 0, .int .u8 0, .int .u8 0, .int .u8 0, .int .u8 0, .int .u8 0, .int .u8 0, .int .u8 0, .int .u8 0, .int .u8 0, .int .u8 0, .int .u8 0, .int .u8 0] 76)
 have hr := Vs.new (w.alloc (.cells #[.int .u8 k, .int .u8 f, .int .i64 b, .int .i64 l, .int .i64 m, .int .i64 c, .int .i64 p, .string s] 62)) (totL (.slice none 0 0) 0 z16) (#[.slice none 0 0, .int .i64 0, .int .u8 0, .int .u8 0, .int .u8 0, .int .u8 0, .int .u8 0, .int .u8 0, .int .u8 0, .int .u8 0, .int .u8 0, .int .u8 0, .int .u8 0, .int .u8 0, .int .u8 0, .int .u8 0, .int .u8 0, .int .u8 0]) 76 rfl
 simp only [World.size_alloc] at hr
 have hb00 : Below w.heap.size w ((w.alloc (.cells #[.int .u8 k, .int .u8 f, .int .i64 b, .int .i64 l, .int .i64 m, .int .i64 c, .int .i64 p, .string s] 62)).alloc (.cells #[.slice none 0 0, .int .i64 0, .int .u8 0, .int .u8 0, .int .u8 0, .int .u8 0, .int .u8 0, .int .u8 0, .int .u8 0, .int .u8 0, .int .u8 0, .int .u8 0, .int .u8 0, .int .u8 0, .int .u8 0, .int .u8 0, .int .u8 0, .int .u8 0] 76)) := by repeat (first | exact bA | with_reducible assumption | apply bB)
 have hszn : w.heap.size + 2 ≤ ((w.alloc (.cells #[.int .u8 k, .int .u8 f, .int .i64 b, .int .i64 l, .int .i64 m, .int .i64 c, .int .i64 p, .string s] 62)).alloc (.cells #[.slice none 0 0, .int .i64 0, .int .u8 0, .int .u8 0, .int .u8 0, .int .u8 0, .int .u8 0, .int .u8 0, .int .u8 0, .int .u8 0, .int .u8 0, .int .u8 0, .int .u8 0, .int .u8 0, .int .u8 0, .int .u8 0, .int .u8 0, .int .u8 0] 76)).heap.size := by simp only [World.size_alloc]; omega
 generalize ((w.alloc (.cells #[.int .u8 k, .int .u8 f, .int .i64 b, .int .i64 l, .int .i64 m, .int .i64 c, .int .i64 p, .string s] 62)).alloc (.cells #[.slice none 0 0, .int .i64 0, .int .u8 0, .int .u8 0, .int .u8 0, .int .u8 0, .int .u8 0, .int .u8 0, .int .u8 0, .int .u8 0, .int .u8 0, .int .u8 0, .int .u8 0, .int .u8 0, .int .u8 0, .int .u8 0, .int .u8 0, .int .u8 0] 76)) = w1 at hT hr hb00 hszn ⊢
 obtain ⟨⟨T0, T1, T2, T3, T4, T5, T6, T7⟩, ⟨T8, T9, T10, T11, T12, T13, T14, T15⟩, T16⟩ := hT.get8
 go_upto_region 4 with (first
  | (go_at_call 43; refine (HC.out _).mono ?_; rintro e w2 ⟨rfl, hb2⟩; replace hb00 := bl_call hb00 (Nat.le_refl _) hb2; replace hT := hT.call hb2; replace hr := hr.call hb2; clear T0 T1 T2 T3 T4 T5 T6 T7 T8 T9 T10 T11 T12 T13 T14 T15 T16; clear hb2; obtain ⟨⟨T0, T1, T2, T3, T4, T5, T6, T7⟩, ⟨T8, T9, T10, T11, T12, T13, T14, T15⟩, T16⟩ := hT.get8))
 have hrl := hr.lt
 go_upto_region 5 with fail
 have hX := Vs.new w2 (totL (.slice none 0 0) 0 z16) (#[.slice none 0 0, .int .i64 0, .int .u8 0, .int .u8 0, .int .u8 0, .int .u8 0, .int .u8 0, .int .u8 0, .int .u8 0, .int .u8 0, .int .u8 0, .int .u8 0, .int .u8 0, .int .u8 0, .int .u8 0, .int .u8 0, .int .u8 0, .int .u8 0]) 76 rfl
 have hbA : Below w2.heap.size w2 (w2.alloc (.cells #[.slice none 0 0, .int .i64 0, .int .u8 0, .int .u8 0, .int .u8 0, .int .u8 0, .int .u8 0, .int .u8 0, .int .u8 0, .int .u8 0, .int .u8 0, .int .u8 0, .int .u8 0, .int .u8 0, .int .u8 0, .int .u8 0, .int .u8 0, .int .u8 0] 76)) := by repeat (first | exact bA | with_reducible assumption | apply bB)
 replace hb00 := bl_call hb00 (Nat.le_refl _) hbA
 replace hT := hT.call hbA
 replace hr := hr.call hbA
 clear hbA
 generalize w2.alloc (.cells #[.slice none 0 0, .int .i64 0, .int .u8 0, .int .u8 0, .int .u8 0, .int .u8 0, .int .u8 0, .int .u8 0, .int .u8 0, .int .u8 0, .int .u8 0, .int .u8 0, .int .u8 0, .int .u8 0, .int .u8 0, .int .u8 0, .int .u8 0, .int .u8 0] 76) = w3 at hb00 hT hr hX ⊢
 have hx3 := hX.lt
 clear T0 T1 T2 T3 T4 T5 T6 T7 T8 T9 T10 T11 T12 T13 T14 T15 T16
 obtain ⟨⟨T0, T1, T2, T3, T4, T5, T6, T7⟩, ⟨T8, T9, T10, T11, T12, T13, T14, T15⟩, T16⟩ := hT.get8
 go_upto_region 6 with fail
 have hF := Vs.new w3 [.int .u8 f] #[.int .u8 f] 58 rfl
 have hbA : Below w3.heap.size w3 (w3.alloc (.cells #[.int .u8 f] 58)) := by repeat (first | exact bA | with_reducible assumption | apply bB)
 replace hb00 := bl_call hb00 (Nat.le_refl _) hbA
 replace hT := hT.call hbA
 replace hr := hr.call hbA
 replace hX := hX.call hbA
 clear hbA
 generalize w3.alloc (.cells #[.int .u8 f] 58) = w4 at hb00 hT hr hX hF ⊢
 have hxl := hX.lt
 obtain ⟨xb, hxb⟩ : ∃ z, w2.heap.size = z := ⟨_, rfl⟩
 obtain ⟨fb, hfb⟩ : ∃ z, w3.heap.size = z := ⟨_, rfl⟩
 have hxf : xb < fb := by rw [← hxb, ← hfb]; exact hx3
 rw [hxb] at hX hrl hxl
 rw [hfb] at hF
 simp only [hxb, hfb]
 clear hxb hfb
 clear hx3
 clear T0 T1 T2 T3 T4 T5 T6 T7 T8 T9 T10 T11 T12 T13 T14 T15 T16
 have hs4 := hb00.size
 have hrow4 : 0 < bs.length → ∃ b o, A = some ⟨b, o, none⟩ ∧ b < w.heap.size ∧ RowB w4 b o bs := fun hp => by
  obtain ⟨b, o, e1, e2, e3⟩ := HROW.out hp
  exact ⟨b, o, e1, e2, e3.belowB hb00 e2⟩
 have hRD := pack_Read (fun q => q = xb) (fun _ cd _ => TkErr f n M bs cd) (fun B0 rest wz => rest = ((bs.drop 4).drop 16).drop M ∧ TkRes f n M xb B0 bs wz) 77 #[.pointer (some ⟨xb, 0, none⟩), .pointer (some ⟨w.heap.size, 0, none⟩), .pointer (some ⟨fb, 0, none⟩)] A bs cc w4 w.heap.size hs4 ent_Take HCC.out hrow4
  (fun q h => by subst h; exact hxl) (fun _ _ _ _ _ h _ => h)
  (fun B0 r wa wb hB h hx => by
   obtain ⟨h1, h2, h3, A1, c1, S1, h4, h5, h6, h7⟩ := h
   exact ⟨h1, h2, h3, A1, c1, S1, h4.exc (fun h9 => by omega) hx, own_other h5 hx (fun g hg h9 => by
    have := (h5.lt g hg).1
    omega), h6, h7⟩)
  (fun wz rb hrb hbz hRz => (take_Clo hf k 0 b l m c p s n bs rb w.heap.size xb w.heap.size fb wz hRz (hX.call hbz) (hT.call hbz) (hF.call hbz) (by omega) (by have := hF.lt; omega) H8.out M HM.out hn HO.out).mono fun e w' h => by
   obtain ⟨h1, h2⟩ := h
   refine ⟨h1, ?_⟩
   rcases h2 with ⟨cd, e1, e2, e3⟩ | ⟨e1, e2, e3⟩
   ·exact .inl ⟨cd, e1, e2, e3⟩
   ·exact .inr ⟨e1, _, e2, rfl, e3⟩)
 rw [HLN.out] at hRD
 have HRD := Lib.hid hRD
 clear hRD hrow4
 go_upto_region 7 with (go_at_call 76; refine HRD.out.mono ?_; rintro e w5 ⟨cd, B0, rfl, hB0, hx5, h5⟩)
 have hr5 := hr.exc (S := fun q => q = xb) (by omega) hx5
 have HB5 : Hid (Below w.heap.size w w5) := Lib.hid (hb00.trans (Exc.below (hx5.mono hs4) (fun q hq h => by omega)))
 clear hr hT hX hF hx5 hb00 HRD
 by_cases h0 : cd = 0
 ·subst h0
  have h6 : ∃ rest : List Int, (rest = ((bs.drop 4).drop 16).drop M ∧ TkRes f n M xb B0 bs w5) ∧ rest.length = 0 := by
   rcases h5 with h | ⟨rest, h1, h2⟩
   ·exfalso
    rcases h with ⟨h, _⟩ | ⟨h, _⟩ | ⟨h, _⟩ <;> omega
   ·refine ⟨rest, h1, ?_⟩
    by_cases h3 : rest.length = 0
    ·exact h3
    ·rw [if_neg h3] at h2
     omega
  obtain ⟨rest, ⟨hre, hl1, hv1, A1, c1, S, hX5, hown, hSl, hSv⟩, hr0⟩ := h6
  rw [hre, List.length_drop, List.length_drop, List.length_drop] at hr0
  have HL0 : Hid (bs.length = 20 + M) := Lib.hid (by omega)
  have hkl : ((bs.drop 4).take 16).length = 16 := by
   rw [List.length_take, List.length_drop]
   omega
  have HSV := Lib.hid hSv
  have HV1 := Lib.hid hv1
  obtain ⟨kk, hkk⟩ : ∃ z, (bs.drop 4).take 16 = z := ⟨_, rfl⟩
  obtain ⟨vv, hvv⟩ : ∃ z, ((valB (bs.take 4) : Nat) : Int) = z := ⟨_, rfl⟩
  rw [hkk] at hX5 hkl
  rw [hvv] at hX5
  have HKK := Lib.hid hkk
  have HVV := Lib.hid hvv
  have HKL := Lib.hid hkl
  clear hre hr0 hl1 hv1 hSv hkk hvv hkl h5
  have hst := hr5.storeT (k := kk) (v := .slice A1 n c1) (m := vv) z16_length HKL.out rfl
  have HR := Lib.hid (hr5.setT (k := kk) (v := .slice A1 n c1) (m := vv) z16_length HKL.out)
  have HB := Lib.hid (bl_setCells HB5.out (b := w.heap.size + 1) (by omega) 0 (totL (.slice A1 n c1) vv kk))
  have HOW := Lib.hid (own_lower (B' := w.heap.size) (own_other hown (exc_setCells (S := fun q => q = w.heap.size + 1) (w.heap.size + 1) rfl (totL (.slice A1 n c1) vv kk) 0 w5 (exc_of (Below.refl _ _))) (fun g hg h => by
   have := (hown.lt g hg).1
   omega)) (by omega))
  clear hr5 hown
  go_upto_region 9 with fail
  refine wp_region_lit ?_
  refine wpList_valD (some 26) rfl rfl (exec_load rfl (by kernel_rfl) (hX5.loadT HKL.out)) ?_
  simp only [Zp, Zq, Zr, Zs]
  refine wpList_skipD rfl rfl (exec_store rfl (by kernel_rfl) (by kernel_rfl) hst) ?_
  refine wpList_valD (some 5) rfl rfl (by (go_simp; first | with_reducible rfl | exact ⟨rfl, rfl⟩ | (trace_state; fail))) ?_
  simp only [Zp, Zq, Zr, Zs]
  clear hst hX5
  go_upto_region 99 with fail
  refine bodyPost_ret (results_totalE (b := w.heap.size + 1) HR.out HKL.out rfl rfl) rfl (.inr ⟨A1, c1, S, ?_, HOW.out, hSl, HSV.out, HL0.out, HV1.out, HB.out⟩)
  rw [HKK.out, HVV.out]
  rfl
 ·have HE : Hid (TkErr f n M bs cd ∨ (cd = 27 ∧ 20 + M < bs.length)) := Lib.hid (by
   rcases h5 with h | ⟨rest, ⟨h1, h3, _⟩, h2⟩
   ·exact .inl h
   ·right
    by_cases h4 : rest.length = 0
    ·rw [if_pos h4] at h2
     exact absurd h2 h0
    ·rw [if_neg h4] at h2
     rw [h1, List.length_drop, List.length_drop, List.length_drop] at h4
     exact ⟨h2, by omega⟩)
  have HN := Lib.hid h0
  have hn1 : (cd != 0) = true := by simpa using h0
  clear h0 h5
  have hr := hr5
  clear hr5
  have hst := hr.storeT (k := z16) (v := .slice none 0 0) (m := 0) z16_length z16_length rfl
  have HR := Lib.hid (hr.setT (k := z16) (v := .slice none 0 0) (m := 0) z16_length z16_length)
  have HB := Lib.hid (bl_setCells HB5.out (b := w.heap.size + 1) (by omega) 0 (totL (.slice none 0 0) 0 z16))
  clear hr
  go_upto_region 8 with fail
  refine wp_region_lit ?_
  refine wpList_valD (some 24) rfl rfl (exec_build rfl (by kernel_rfl) (build_total0 _)) ?_
  simp only [Zp, Zq, Zr, Zs]
  refine wpList_valD (some 25) rfl rfl (by (go_simp; first | with_reducible rfl | exact ⟨rfl, rfl⟩ | (trace_state; fail))) ?_
  simp only [Zp, Zq, Zr, Zs]
  refine wpList_skipD rfl rfl (exec_store rfl (by kernel_rfl) (by kernel_rfl) hst) ?_
  refine wpList_valD (some 5) rfl rfl (by (go_simp; first | with_reducible rfl | exact ⟨rfl, rfl⟩ | (trace_state; fail))) ?_
  simp only [Zp, Zq, Zr, Zs]
  go_upto_region 99 with fail
  exact bodyPost_ret (results_totalE (b := w.heap.size + 1) HR.out z16_length rfl rfl) rfl (.inl ⟨cd, HN.out, ⟨rfl, HB.out⟩, HE.out⟩)
end

end Go.Proofs.Ytbakkmfjamcbfaa

namespace Go.Proofs.Ytbakkmfjamcbfaa
open Go.RowKit Fm
set_option linter.unusedVariables false
set_option maxRecDepth 100000

theorem rowB_one (w : World) (d : Int) : RowB (w.alloc (.cells #[.int .u8 d] 5)) w.heap.size 0 [d] := fun i e hi => by
 have hn := (Vs.new w [.int .u8 d] #[.int .u8 d] 5 rfl).cell
 match i, hi with
 | 0, hi =>
  injection hi with hi
  subst hi
  exact hn 0 _ rfl

section
variable {f : Nat} (hf : IsF f)
include hf

end

end Go.Proofs.Ytbakkmfjamcbfaa

namespace Go.Proofs.Ytbakkmfjamcbfaa
open Go.RowKit Fm
set_option linter.unusedVariables false
set_option maxRecDepth 100000

theorem putB_parts {f : Nat} (N : Nat) (K : List Int) (S : KL f) (n : Nat) (hK : K.length = 16) (hS : S.length = n) (hN : N < 4294967296) :
  (putB N K S).length = 20 + n * sizeK f ∧ valB ((putB N K S).take 4) = N ∧ ((putB N K S).drop 4).take 16 = K ∧ ((putB N K S).drop 4).drop 16 = vecB S ∧ (putB N K S).take 4 = bytesN N 4 := by
 have h4 : (bytesN N 4).length = 4 := bytesN_length N 4
 have e1 : (putB N K S).take 4 = bytesN N 4 := by
  unfold putB
  rw [List.take_append_of_le_length (by omega), List.take_of_length_le (by omega)]
 have e2 : (putB N K S).drop 4 = K ++ vecB S := by
  unfold putB
  rw [List.drop_append_of_le_length (by omega), List.drop_of_length_le (by omega), List.nil_append]
 refine ⟨?_, ?_, ?_, ?_, e1⟩
 ·unfold putB
  rw [List.length_append, List.length_append, h4, hK, vecB_length, hS]
  omega
 ·rw [e1]
  exact valB_bytesN 4 N (by simpa using hN)
 ·rw [e2, List.take_append_of_le_length (by omega), List.take_of_length_le (by omega)]
 ·rw [e2, List.drop_append_of_le_length (by omega), List.drop_of_length_le (by omega), List.nil_append]

theorem putB_b8 {f : Nat} (N : Nat) (K : List Int) (S : KL f) (hK : B8 K) : B8 (putB N K S) := by
 intro x hx
 unfold putB at hx
 rcases List.mem_append.1 hx with h | h
 ·unfold bytesN at h
  obtain ⟨i, _, rfl⟩ := List.mem_map.1 h
  have : byteN N i < 256 := Nat.mod_lt _ (by omega)
  omega
 ·rcases List.mem_append.1 h with h | h
  ·exact hK x h
  ·exact vecB_u8 S x h

def SlB (w : World) (A : Option Addr) (bs : List Int) (c : Nat) : Prop :=
 (bs.length ≤ c ∧ c ≤ 9223372036854775807) ∧ (0 < bs.length → ∃ b o, A = some ⟨b, o, none⟩ ∧ b < w.heap.size ∧ RowB w b o bs)
theorem SlB.later {w w' : World} {A : Option Addr} {bs : List Int} {c : Nat} (h : SlB w A bs c) (hb : Below w.heap.size w w') : SlB w' A bs c :=
 ⟨h.1, fun hp => by
  obtain ⟨b, o, e1, e2, e3⟩ := h.2 hp
  exact ⟨b, o, e1, Nat.lt_of_lt_of_le e2 hb.size, e3.belowB hb e2⟩⟩
theorem SlB.own {w : World} {B n c : Nat} {A : Option Addr} {xs : List Int} (h : w.ownsRow B 5 1 (.slice A n c) n (cells8 xs)) (hn : xs.length = n) : SlB w A xs c := by
 obtain ⟨h1, h2, h3⟩ := own_cap h
 subst hn
 exact ⟨⟨h1, h2⟩, fun hp => by
  obtain ⟨b, e1, e2, e3⟩ := h3 hp
  exact ⟨b, 0, e1, e3, e2⟩⟩
def RwZ (f n : Nat) (raw : List Int) (B : Nat) (A : Option Addr) (q c : Nat) (m : Int) (k : List Int) (code : Int) (w : World) : Prop :=
 (code ≠ 0 ∧ A = none ∧ q = 0 ∧ c = 0 ∧ m = 0 ∧ k = z16) ∨ (code = 0 ∧ q = n ∧ ∃ (S : KL f) (V : Nat), m = (V : Int) ∧ V ≤ 256 ∧ w.ownsRow B 99 2 (.slice A n c) n (cellsE (esK S)) ∧ S.length = n ∧ putB V k S = raw)
theorem RwZ.call {f n : Nat} {raw : List Int} {B : Nat} {A : Option Addr} {q c : Nat} {m : Int} {k : List Int} {code : Int} {w w' : World} (h : RwZ f n raw B A q c m k code w) (hb : Below w.heap.size w w') : RwZ f n raw B A q c m k code w' := by
 rcases h with h | ⟨h1, h2, S, V, h3, h4, h5, h6, h7⟩
 ·exact .inl h
 ·exact .inr ⟨h1, h2, S, V, h3, h4, own_call h5 hb, h6, h7⟩
theorem RwZ.exc {f n : Nat} {raw : List Int} {B g0 : Nat} {A : Option Addr} {q c : Nat} {m : Int} {k : List Int} {code : Int} {w w' : World} (h : RwZ f n raw B A q c m k code w) (hg : g0 < B) (hx : Exc (fun q => q = g0) w.heap.size w w') : RwZ f n raw B A q c m k code w' := by
 rcases h with h | ⟨h1, h2, S, V, h3, h4, h5, h6, h7⟩
 ·exact .inl h
 ·exact .inr ⟨h1, h2, S, V, h3, h4, own_other h5 hx (fun g hg2 e => by
   have := (h5.lt g hg2).1
   omega), h6, h7⟩
section
variable {f : Nat} (hf : IsF f)
include hf

theorem take_same {n M N : Nat} {K : List Int} {S : KL f} (hM : M = n * sizeK f) (hK : K.length = 16) (hS : S.length = n) (hN : N ≤ 256) {w w' : World} {e : Ending} (h : RetTake f n M (putB N K S) w e w') :
  ∃ (A : Option Addr) (c : Nat), e = .returned (.tuple #[.agg (totL (.slice A n c) (N : Int) K).toArray, .int .i64 0]) ∧ w'.ownsRow w.heap.size 99 2 (.slice A n c) n (cellsE (esK S)) ∧ Below w.heap.size w w' := by
 obtain ⟨h1, h2, h3, h4, _⟩ := putB_parts N K S n hK hS (by omega)
 rw [← hM] at h1
 have hvl : (vecB S).length = M := by rw [vecB_length, hS, hM]
 rcases h with ⟨c, hc, _, h⟩ | ⟨A, c, S', h5, h6, h7, h8, _, _, h9⟩
 ·exfalso
  rcases h with (⟨_, h⟩ | ⟨_, _, h⟩ | ⟨_, _, h⟩) | ⟨_, h⟩
  ·omega
  ·rw [h2] at h
   omega
  ·refine h S hS ?_
   rw [h4, List.take_of_length_le (by omega)]
  ·omega
 ·rw [h4, List.take_of_length_le (by omega)] at h8
  have he : S' = S := vecB_inj hf (by rw [h7, hS]) h8
  subst he
  rw [h2, h3] at h5
  exact ⟨A, c, h5, h6, h9⟩

end

end Go.Proofs.Ytbakkmfjamcbfaa

namespace Go.Proofs.Ytbakkmfjamcbfaa
open Go.RowKit Fm
set_option linter.unusedVariables false
set_option maxRecDepth 100000

/-! ### one row of bytes, made by a call -/
def ObT (w0 : World) (o : Option (Option Addr × Nat)) (w : World) : Prop := Below w0.heap.size w0 w
structure ObK (w0 : World) (n : Nat) (bs : List Int) (o : Option (Option Addr × Nat)) (w : World) : Prop where
 t : Below w0.heap.size w0 w
 a : ∀ p, o = some p → w.ownsRow w0.heap.size 5 1 (.slice p.1 n p.2) n (cells8 bs)
section
variable {w0 w w' : World} {n : Nat} {bs : List Int} {o : Option (Option Addr × Nat)}
theorem ObK.weak (o : Option (Option Addr × Nat)) (w : World) (h : ObK w0 n bs o w) : ObT w0 o w := h.t
theorem ObK.clo : Clo (ObK w0 n bs o) := fun w w' h hb => ⟨bl_call h.t (Nat.le_refl _) hb, fun p e => own_call (h.a p e) hb⟩
theorem ObK.start (w0 : World) : ObK w0 n bs none w0.drew := ⟨(Below.refl _ _).drew, fun _ e => (by cases e)⟩
theorem ObK.took (h : ObK w0 n bs none w) (hn : bs.length = n) {e : Ending} (hr : RetOB bs w e w') : ∃ p : Option Addr × Nat, e = .returned (.slice p.1 n p.2) ∧ ObK w0 n bs (some p) w' := by
 obtain ⟨A, c, he, ho, hb⟩ := hr
 rw [hn] at he ho
 refine ⟨(A, c), he, bl_call h.t (Nat.le_refl _) hb, fun p e => ?_⟩
 injection e with e
 subst e
 exact own_lower ho h.t.size
end

def RetO2 (n : Nat) (bs : List Int) (w : World) (e : Ending) (w' : World) : Prop :=
 ∃ (A : Option Addr) (c : Nat), e = .returned (.slice A n c) ∧ w'.ownsRow w.heap.size 5 1 (.slice A n c) n (cells8 bs) ∧ Below w.heap.size w w'
theorem RetOB.n {n : Nat} {bs : List Int} {w w' : World} {e : Ending} (h : RetOB bs w e w') (hn : bs.length = n) : RetO2 n bs w e w' := by
 subst hn
 exact h
/-! ### a new total, stored into -/
def XtT (w0 : World) (o : Option Nat) (w : World) : Prop := Below w0.heap.size w0 w
structure XtK (w0 : World) (o : Option Nat) (s : Bool) (w : World) : Prop where
 t : Below w0.heap.size w0 w
 c : s = false → ∀ x, o = some x → w0.heap.size ≤ x ∧ Vs w x (totL (.slice none 0 0) 0 z16)
section
variable {w0 w w' : World} {o : Option Nat} {s : Bool}
theorem XtK.weak (o : Option Nat) (s : Bool) (w : World) (h : XtK w0 o s w) : XtT w0 o w := h.t
theorem XtK.clo : Clo (XtK w0 o s) := fun w w' h hb => ⟨bl_call h.t (Nat.le_refl _) hb, fun e x e2 => ⟨(h.c e x e2).1, (h.c e x e2).2.call hb⟩⟩
theorem XtK.start (w0 : World) : XtK w0 none false w0.drew := ⟨(Below.refl _ _).drew, fun _ _ e => (by cases e)⟩
theorem XtK.mk1 {cs : Array Value} {t : TypeId} (h : XtK w0 none false w) (hc : cs = (totL (.slice none 0 0) 0 z16).toArray) : XtK w0 (some w.heap.size) false (w.alloc (.cells cs t)) := by
 refine ⟨bl_call h.t (Nat.le_refl _) ((Below.refl w.heap.size w).alloc (Nat.le_refl _) (.cells cs t)), fun _ x e => ?_⟩
 injection e with e
 subst e
 exact ⟨h.t.size, Vs.new w _ cs t hc⟩
theorem XtK.put {x : Nat} (h : XtK w0 (some x) false w) (l : List Value) : XtK w0 (some x) true (w.setCells x 0 l) :=
 ⟨bl_setCells h.t (h.c rfl x rfl).1 _ _, fun e => (by cases e)⟩
end

/-! ### append, where what was there is kept -/
/-! ### a byte, a longer row, what is said of it, a new total, stored into -/
def ByT (w0 : World) (g0 : Nat) (o1 : Option Nat) (o2 : Option (Option Addr × Nat)) (o3 : Option Unit) (o4 : Option Nat) (w : World) : Prop := Exc (fun q => q = g0) w0.heap.size w0 w
structure ByK (w0 : World) (B g0 n cap : Nat) (bs : List Int) (o1 : Option Nat) (o2 : Option (Option Addr × Nat)) (o3 : Option Unit) (o4 : Option Nat) (s : Bool) (w : World) : Prop where
 t : Exc (fun q => q = g0) w0.heap.size w0 w
 l : g0 < w0.heap.size ∧ B ≤ w0.heap.size
 k : w.ownsRow B 5 1 (.slice (some ⟨g0, 0, none⟩) n cap) n (cells8 bs)
 a : s = false → ∀ g, o1 = some g → RowB w g 0 [0] ∧ g < w.heap.size ∧ w0.heap.size ≤ g
 b : s = false → ∀ p, o2 = some p → w.ownsRow B 5 1 (.slice p.1 (n + 1) p.2) (n + 1) (cells8 (bs ++ [0]))
 c : s = false → ∀ x, o4 = some x → w0.heap.size ≤ x ∧ Vs w x (totL (.slice none 0 0) 0 z16)
section
variable {w0 w w' : World} {B g0 n cap : Nat} {bs : List Int} {o1 : Option Nat} {o2 : Option (Option Addr × Nat)} {o3 : Option Unit} {o4 : Option Nat} {s : Bool}
theorem ByK.weak (o1 : Option Nat) (o2 : Option (Option Addr × Nat)) (o3 : Option Unit) (o4 : Option Nat) (s : Bool) (w : World) (h : ByK w0 B g0 n cap bs o1 o2 o3 o4 s w) : ByT w0 g0 o1 o2 o3 o4 w := h.t
theorem ByK.clo : Clo (ByK w0 B g0 n cap bs o1 o2 o3 o4 s) := fun w w' h hb => ⟨h.t.call hb, h.l, own_call h.k hb, fun e g e2 => ⟨(h.a e g e2).1.belowB hb (h.a e g e2).2.1, Nat.lt_of_lt_of_le (h.a e g e2).2.1 hb.size, (h.a e g e2).2.2⟩, fun e p e2 => own_call (h.b e p e2) hb, fun e x e2 => ⟨(h.c e x e2).1, (h.c e x e2).2.call hb⟩⟩
theorem ByK.start {w0 : World} (h1 : g0 < w0.heap.size) (h2 : B ≤ w0.heap.size) (h : w0.ownsRow B 5 1 (.slice (some ⟨g0, 0, none⟩) n cap) n (cells8 bs)) : ByK w0 B g0 n cap bs none none none none false w0.drew :=
 ⟨exc_of ((Below.refl _ _).drew), ⟨h1, h2⟩, own_call h ((Below.refl _ _).drew), fun _ _ e => (by cases e), fun _ _ e => (by cases e), fun _ _ e => (by cases e)⟩
theorem ByK.mk1 (h : ByK w0 B g0 n cap bs none o2 o3 o4 false w) : ByK w0 B g0 n cap bs (some w.heap.size) o2 o3 o4 false (w.alloc (.cells #[.int .u8 0] 5)) := by
 have h2 := ByK.clo _ _ h ((Below.refl w.heap.size w).alloc (Nat.le_refl _) (.cells #[.int .u8 0] 5))
 refine ⟨h2.t, h2.l, h2.k, fun _ g e => ?_, h2.b, h2.c⟩
 injection e with e
 subst e
 exact ⟨rowB_one w 0, by rw [World.size_alloc]; omega, h.t.size⟩
theorem ByK.mk2 {p : Option Addr × Nat} (h : ByK w0 B g0 n cap bs o1 none o3 o4 false w) (ho : w'.ownsRow B 5 1 (.slice p.1 (n + 1) p.2) (n + 1) (cells8 (bs ++ [0]))) (hx : Exc (fun q => q = g0) w.heap.size w w') (hk : w'.ownsRow B 5 1 (.slice (some ⟨g0, 0, none⟩) n cap) n (cells8 bs)) : ByK w0 B g0 n cap bs o1 (some p) o3 o4 false w' := by
 have hl := h.l.1
 refine ⟨h.t.more hx (fun q h => .inl h), h.l, hk, fun e g e2 => ?_, fun _ p2 e => ?_, fun e x e2 => ?_⟩
 ·obtain ⟨a1, a2, a3⟩ := h.a e g e2
  exact ⟨fun i u hi => (hx.cell (p := ⟨g, 0 + i, none⟩) a2 (fun (e3 : g = g0) => by omega)).trans (a1 i u hi), Nat.lt_of_lt_of_le a2 hx.size, a3⟩
 ·injection e with e
  subst e
  exact ho
 ·obtain ⟨a1, a2⟩ := h.c e x e2
  exact ⟨a1, a2.exc (S := fun q => q = g0) (fun e3 => by omega) hx⟩
theorem ByK.mk3 (h : ByK w0 B g0 n cap bs o1 o2 none o4 s w) (hb : Below w.heap.size w w') : ByK w0 B g0 n cap bs o1 o2 (some ()) o4 s w' := by
 have h2 := ByK.clo _ _ h hb
 exact ⟨h2.t, h2.l, h2.k, h2.a, h2.b, h2.c⟩
theorem ByK.put {x : Nat} (h : ByK w0 B g0 n cap bs o1 o2 o3 (some x) false w) (l : List Value) : ByK w0 B g0 n cap bs o1 o2 o3 (some x) true (w.setCells x 0 l) := by
 have hx := (h.c rfl x rfl).1
 have hl := h.l.1
 have he : Exc (fun q => q = x) w.heap.size w (w.setCells x 0 l) := exc_setCells (S := fun q => q = x) x rfl l 0 w (exc_of (Below.refl _ _))
 refine ⟨h.t.more he (fun q e => .inr (by omega)), h.l, own_other h.k he (fun g hg e => ?_), fun e => (by cases e), fun e => (by cases e), fun e => (by cases e)⟩
 have h1 : g0 = g := Option.some.inj hg
 omega
end

end Go.Proofs.Ytbakkmfjamcbfaa
