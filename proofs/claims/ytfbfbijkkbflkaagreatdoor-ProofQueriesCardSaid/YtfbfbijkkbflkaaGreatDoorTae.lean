/-
 PfLr: for ProofQueries.
-/
import Derived.Test.YtfbfbijkkbflkaaGreatDoorTab
namespace Go.Proofs.YtfbfbijkkbflkaaGreatDoor
open Go.RowKit Fm
set_option linter.unusedVariables false
set_option maxRecDepth 100000

section
variable {f : Nat}
def rowA (L : Nat) (s : Fin (Pm f)) (args : Nat → KL f) (i n : Nat) : KL f := padTo L (lineA s args i n)
theorem rowA_length {L : Nat} {s : Fin (Pm f)} {args : Nat → KL f} {i n : Nat} (h : n + 1 ≤ 2 ^ L) : (rowA L s args i n).length = 2 ^ L := padTo_length (by rw [lineA_length]; exact h)
theorem rep_set (l : KL f) (d : Nat) (x : Fin (Pm f)) : (l ++ List.replicate (d + 1) 0).set l.length x = (l ++ [x]) ++ List.replicate d 0 := by
 rw [List.set_append_right _ _ (Nat.le_refl _), Nat.sub_self, List.append_assoc]
 rfl
theorem rowA_step {L : Nat} {s : Fin (Pm f)} {args : Nat → KL f} {i n : Nat} (h : n + 1 < 2 ^ L) : (rowA L s args i n).set (n + 1) ((args n).getD i 0) = rowA L s args i (n + 1) := by
 have h1 := lineA_length s args i n
 obtain ⟨d, hd⟩ : ∃ d, 2 ^ L - (n + 1) = d + 1 := ⟨2 ^ L - (n + 1) - 1, by omega⟩
 have h2 := rep_set (lineA s args i n) d ((args n).getD i 0)
 rw [h1] at h2
 unfold rowA padTo
 rw [lineA_succ, List.length_append, h1, hd, h2]
 show _ = _ ++ List.replicate (2 ^ L - (n + 1 + 1)) 0
 rw [show 2 ^ L - (n + 1 + 1) = d by omega]
theorem rowA_zero {L : Nat} {s : Fin (Pm f)} {args : Nat → KL f} {i : Nat} : (List.replicate (2 ^ L) (0 : Fin (Pm f))).set 0 s = rowA L s args i 0 := by
 obtain ⟨d, hd⟩ : ∃ d, 2 ^ L = d + 1 := ⟨2 ^ L - 1, by have := Nat.two_pow_pos L; omega⟩
 unfold rowA padTo
 show _ = [s] ++ List.replicate (2 ^ L - 1) 0
 rw [hd]
 rfl
theorem polysA_get {L : Nat} {seeds : KL f} {args : Nat → KL f} {n a i : Nat} (h : i < a) : (polysA L seeds args n a)[i]? = some (coefsK L (rowA L (seeds.getD i 0) args i n)) := by
 unfold polysA
 rw [List.getElem?_map, List.getElem?_range h]
 rfl
theorem qryL_get {y : CK} {L : Nat} {v j : KL f} {part : Fin (Pm f)} {p : KL f} {x : Fin (Pm f)} {i : Nat} (h : i < y.arity) : (qryL y L v j part p x)[1 + i]? = some (ev x (coefsK L (rowA L ((p.take y.arity).getD i 0) (argOf y v j part) i y.calls))) := by
 unfold qryL
 rw [Nat.add_comm, List.getElem?_cons_succ, List.getElem?_append_left (by rw [List.length_map, polysA_length]; exact h), List.getElem?_map, polysA_get h]
 rfl
theorem qryL_zero {y : CK} {L : Nat} {v j : KL f} {part : Fin (Pm f)} {p : KL f} {x : Fin (Pm f)} : (qryL y L v j part p x)[0]? = some (runF y v j part (ansQ L (p.drop y.arity))) := rfl
theorem qryL_last {y : CK} {L : Nat} {v j : KL f} {part : Fin (Pm f)} {p : KL f} {x : Fin (Pm f)} : (qryL y L v j part p x)[y.arity + 1]? = some (ev x (p.drop y.arity)) := by
 unfold qryL
 rw [List.getElem?_cons_succ, List.getElem?_append_right (by rw [List.length_map, polysA_length]; exact Nat.le_refl _), List.length_map, polysA_length, Nat.sub_self]
 rfl
end

/-! ### rows of rows, each written in place -/
structure CapR {f : Nat} (E : Nat → Prop) (wE : World) (kb sb gb pb ab tb aw ar N : Nat) (rb : Nat → Nat) (vp vt : Value) (p T : KL f) : Prop where
 fs : Vs wE sb [.slice (some ⟨aw, 0, none⟩) ar ar]
 fg : Vs wE gb [.int .i64 (f : Nat)]
 fp : Vs wE pb [vp]
 fa : Vs wE ab [.int .i64 (ar : Nat)]
 ft : Vs wE tb [vt]
 sp : SlK wE wE.heap.size vp p
 st : SlK wE wE.heap.size vt T
 rows : ∀ i, i < ar → wE.cell? ⟨aw, i, none⟩ = some (.slice (some ⟨rb i, 0, none⟩) N N)
 es : E sb
 eg : E gb
 ep : E pb
 ea : E ab
 et : E tb
 ew : E aw
 bp : ∀ (p : Addr) (a c : Nat), vp = .slice (some p) a c → E p.block
 bt : ∀ (p : Addr) (a c : Nat), vt = .slice (some p) a c → E p.block
 lt : ∀ q, E q → q < wE.heap.size
 ek : ¬ E kb
 er : ∀ i, i < ar → ¬ E (rb i)
 rk : ∀ i, i < ar → rb i ≠ kb
 rr : ∀ i j, i < ar → j < ar → rb i = rb j → i = j
theorem CapR.at {f : Nat} {E : Nat → Prop} {wE w : World} {kb sb gb pb ab tb aw ar N : Nat} {rb : Nat → Nat} {vp vt : Value} {p T : KL f} (h : CapR E wE kb sb gb pb ab tb aw ar N rb vp vt p T) (ha : Agr E wE w) :
  Vs w sb [.slice (some ⟨aw, 0, none⟩) ar ar] ∧ Vs w gb [.int .i64 (f : Nat)] ∧ Vs w pb [vp] ∧ Vs w ab [.int .i64 (ar : Nat)] ∧ Vs w tb [vt] ∧ SlK w w.heap.size vp p ∧ SlK w w.heap.size vt T ∧ ∀ i, i < ar → w.cell? ⟨aw, i, none⟩ = some (.slice (some ⟨rb i, 0, none⟩) N N) :=
 ⟨h.fs.sameW (ha _ h.es), h.fg.sameW (ha _ h.eg), h.fp.sameW (ha _ h.ep), h.fa.sameW (ha _ h.ea), h.ft.sameW (ha _ h.et), h.sp.same fun p a c hs => ⟨ha _ (h.bp p a c hs), ha.lt (h.bp p a c hs) (h.lt _ (h.bp p a c hs))⟩, h.st.same fun p a c hs => ⟨ha _ (h.bt p a c hs), ha.lt (h.bt p a c hs) (h.lt _ (h.bt p a c hs))⟩, fun i hi => (World.cell?_of_block (ha _ h.ew)).trans (h.rows i hi)⟩

structure InvR {f : Nat} (kb ar L : Nat) (rb : Nat → Nat) (E : Nat → Prop) (wE : World) (sd : KL f) (args : Nat → KL f) (k : Nat) (D : Nat → Prop) (w : World) : Prop where
 d : ∀ q, D q ↔ q = kb ∨ (∃ i, i < ar ∧ q = rb i) ∨ E q
 ag : Agr E wE w
 c : Vs w kb [.int .i64 (k : Nat)]
 r : ∀ i, i < ar → RwK w (rb i) (rowA L (sd.getD i 0) args i k)
theorem InvR.st {f : Nat} {kb ar L : Nat} {rb : Nat → Nat} {E : Nat → Prop} {wE : World} {sd : KL f} {args : Nat → KL f} {k : Nat} {D : Nat → Prop} {w : World} (h : InvR kb ar L rb E wE sd args k D w) (hl : ∀ q, E q → q < wE.heap.size) : St (InvR kb ar L rb E wE sd args k) D w := by
 refine ⟨h, fun q hq => ?_, fun w w' h hb => ⟨h.d, fun q hq => (hb q ((h.d q).2 (.inr (.inr hq)))).trans (h.ag q hq), h.c.sameW (hb kb ((h.d kb).2 (.inl rfl))), fun i hi => Vs.sameW (h.r i hi) (hb _ ((h.d _).2 (.inr (.inl ⟨i, hi, rfl⟩))))⟩⟩
 rcases (h.d q).1 hq with rfl | ⟨i, hi, rfl⟩ | hq
 ·exact h.c.lt
 ·exact (h.r i hi).lt
 ·exact h.ag.lt hq (hl q hq)

theorem exc_set {S : Nat → Prop} {B : Nat} {a w : World} (h : Exc S B a w) {p : Addr} (hp : S p.block ∨ B ≤ p.block) (x : Value) : Exc S B a (w.setCell p x) :=
 h.trans ⟨rfl, rfl, rfl, by simp [World.setCell], fun k hk hn => Below.heap_setCell _ _ _ _ (fun e => by
  rcases hp with h | h
  ·exact hn (e ▸ h)
  ·have e2 : k = p.block := e
   omega)⟩
theorem rows_step {f : Nat} {w : World} {ar k1 i : Nat} {rb : Nat → Nat} {A B : Nat → KL f} (hr : ∀ j, j < ar → RwK w (rb j) (if j < i then A j else B j)) (hil : i < ar) (hrr : ∀ i j, i < ar → j < ar → rb i = rb j → i = j) (x : Fin (Pm f)) (hl : k1 < (B i).length) (hs : (B i).set k1 x = A i) :
  ∀ j, j < ar → RwK ((w.setCell ⟨rb i, k1 * 2, none⟩ (.int .u64 (lo x))).setCell ⟨rb i, k1 * 2 + 1, none⟩ (.int .u64 (Go.Proofs.YtfbfbijkkbflkaaGreatDoor.hi x))) (rb j) (if j < i + 1 then A j else B j) := fun j hj => by
 by_cases hij : j = i
 ·subst hij
  have h := hr j hj
  rw [if_neg (Nat.lt_irrefl j)] at h
  rw [if_pos (Nat.lt_succ_self j), ← hs]
  exact h.set k1 hl x
 ·have h := hr j hj
  have hne : rb i ≠ rb j := fun e => hij (hrr _ _ hil hj e).symm
  have h2 := RwK.far (RwK.far h (p := ⟨rb i, k1 * 2, none⟩) hne (.int .u64 (lo x))) (p := ⟨rb i, k1 * 2 + 1, none⟩) hne (.int .u64 (Go.Proofs.YtfbfbijkkbflkaaGreatDoor.hi x))
  by_cases h3 : j < i
  ·rw [if_pos h3] at h2
   rw [if_pos (by omega)]
   exact h2
  ·rw [if_neg h3] at h2
   rw [if_neg (by omega)]
   exact h2

/-! ### rows are made -/
theorem madeCells_one (u : Value) (n : Nat) : madeCells #[u] (n * 1) = (List.replicate n u).toArray := by
 apply Array.ext
 ·simp [madeCells]
 ·intro i h1 h2
  simp only [madeCells, Array.getElem_map, Array.getElem_range, List.getElem_toArray, List.getElem_replicate]
  simp [Nat.mod_one]
theorem make_rows (n : Nat) (hn : n ≤ 1099511627776) (w : World) :
  (Instr.makeSlice 59 (.int .i64 (n : Int)) (.int .i64 (n : Int))).run Tryz.prog w = .ok (.slice (some ⟨w.heap.size, 0, none⟩) n n) (w.alloc (.cells (List.replicate n (.slice none 0 0)).toArray 24)) := by
 obtain ⟨i, hi, hz, h1, h2⟩ := info_parts info_sl
 have hr := run_make (P := Tryz.prog) w 59 24 i _ Tryz.underlying59 hi hz .i64 .i64 n n (by omega) (by omega) (by rw [h2]; omega) (by omega)
 rw [hr, h1]
 simp only [Int.toNat_natCast, Value.cells, madeCells_one]
structure WrR {f : Nat} (B0 aw ar N : Nat) (A : Nat → KL f) (rb : Nat → Nat) (i : Nat) (L9 : List Value) (w : World) : Prop where
 len : L9.length = ar
 cl : ∀ j, j < i → L9[j]? = some (.slice (some ⟨rb j, 0, none⟩) N N)
 vs : Vs w aw L9
 lt : aw < B0
 ge : ∀ j, j < i → B0 ≤ rb j
 row : ∀ j, j < i → RwK w (rb j) (A j)
 inj : ∀ a b, a < i → b < i → rb a = rb b → a = b
theorem WrR.call {f : Nat} {B0 aw ar N : Nat} {A : Nat → KL f} {rb : Nat → Nat} {i : Nat} {L9 : List Value} {w w' : World} (h : WrR B0 aw ar N A rb i L9 w) (hb : Below w.heap.size w w') : WrR B0 aw ar N A rb i L9 w' :=
 ⟨h.len, h.cl, h.vs.call hb, h.lt, h.ge, fun j hj => RwK.call (h.row j hj) hb, h.inj⟩
theorem WrR.push {f : Nat} {B0 aw ar N : Nat} {A : Nat → KL f} {rb : Nat → Nat} {i : Nat} {L9 : List Value} {w : World} (h : WrR B0 aw ar N A rb i L9 w) (hil : i < ar) {b : Nat} (hb0 : B0 ≤ b) (hbn : ∀ j, j < i → rb j ≠ b) {Z : KL f} (hr : RwK w b Z) :
  WrR B0 aw ar N (fun j => if j < i then A j else Z) (fun j => if j < i then rb j else b) (i + 1) (L9.set i (.slice (some ⟨b, 0, none⟩) N N)) (w.setCell ⟨aw, i, none⟩ (.slice (some ⟨b, 0, none⟩) N N)) := by
 have hlt := h.lt
 refine ⟨by rw [List.length_set, h.len], fun j hj => ?_, h.vs.put i (by rw [h.len]; exact hil) _, h.lt, fun j hj => ?_, fun j hj => ?_, fun x y hx hy e => ?_⟩
 ·by_cases hji : j < i
  ·simp only [hji, if_true]
   rw [List.getElem?_set_ne (by omega), h.cl j hji]
  ·have e : j = i := by omega
   subst e
   simp only [Nat.lt_irrefl, if_false]
   rw [List.getElem?_set_self (by rw [h.len]; exact hil)]
 ·by_cases hji : j < i
  ·simp only [hji, if_true]
   exact h.ge j hji
  ·simp only [hji, if_false]
   exact hb0
 ·by_cases hji : j < i
  ·simp only [hji, if_true]
   have hne : aw ≠ rb j := by
    have := h.ge j hji
    omega
   exact RwK.far (h.row j hji) (p := ⟨aw, i, none⟩) hne _
  ·simp only [hji, if_false]
   have hne : aw ≠ b := by omega
   exact RwK.far hr (p := ⟨aw, i, none⟩) hne _
 ·by_cases hxi : x < i <;> by_cases hyi : y < i <;> simp only [hxi, hyi, if_true, if_false] at e
  ·exact h.inj x y hxi hyi e
  ·exact absurd e (hbn x hxi)
  ·exact absurd e.symm (hbn y hyi)
  ·omega
theorem WrR.fill {f : Nat} {B0 aw ar N : Nat} {A : Nat → KL f} {rb : Nat → Nat} {i : Nat} {L9 : List Value} {w : World} {Z : KL f} {b : Nat} (h : WrR B0 aw ar N (fun j => if j < i then A j else Z) rb (i + 1) L9 w) (hrb : rb i = b) (x : Fin (Pm f)) (hz : 0 < Z.length) (hs : Z.set 0 x = A i) :
  WrR B0 aw ar N A rb (i + 1) L9 ((w.setCell ⟨b, 0, none⟩ (.int .u64 (lo x))).setCell ⟨b, 1, none⟩ (.int .u64 (Go.Proofs.YtfbfbijkkbflkaaGreatDoor.hi x))) := by
 subst hrb
 have hne : rb i ≠ aw := by
  have h1 := h.ge i (by omega)
  have h2 := h.lt
  omega
 refine ⟨h.len, h.cl, (h.vs.far (p := ⟨rb i, 0, none⟩) hne _).far (p := ⟨rb i, 1, none⟩) hne _, h.lt, h.ge, fun j hj => ?_, h.inj⟩
 by_cases hji : j < i
 ·have h1 := h.row j hj
  simp only [hji, if_true] at h1
  have hn2 : rb i ≠ rb j := fun e => by
   have := h.inj i j (by omega) hj e
   omega
  exact RwK.far (RwK.far h1 (p := ⟨rb i, 0, none⟩) hn2 _) (p := ⟨rb i, 1, none⟩) hn2 _
 ·have e : j = i := by omega
  subst e
  have h1 := h.row j hj
  simp only [Nat.lt_irrefl, if_false] at h1
  rw [← hs]
  exact h1.set 0 hz x
theorem slK_mid {f : Nat} {w : World} {B b o ar c : Nat} {l : KL f} (hrow : RowE w b o (esK l)) (hbl : b < B) (hl : l.length = ar + 2) (hc : ar + 2 ≤ c) (hcm : c ≤ 9223372036854775807) : SlK w B (.slice (some ⟨b, o + 2, none⟩) ar (c - 1)) ((l.drop 1).take ar) := by
 have hlt : ((l.drop 1).take ar).length = ar := by rw [List.length_take, List.length_drop, hl]; omega
 refine ⟨_, _, by rw [hlt], by omega, by omega, fun _ => ⟨b, o + 2, rfl, hbl, fun i e hi => ?_⟩⟩
 have hi2 : (esK l)[i + 1]? = some e := by
  unfold esK at hi ⊢
  rw [List.getElem?_map] at hi ⊢
  have hia : i < ar := by
   rcases Nat.lt_or_ge i ar with h | h
   ·exact h
   ·rw [List.getElem?_eq_none (by omega)] at hi
    cases hi
  rw [List.getElem?_take_of_lt hia, List.getElem?_drop, Nat.add_comm 1 i] at hi
  exact hi
 have h := hrow (i + 1) e hi2
 rw [show o + (i + 1) * 2 = o + 2 + i * 2 by omega] at h
 exact h
theorem blk_ne9 {w : World} {g b : Nat} {xs : List E} {A : Option Addr} {n c : Nat} (h : BlkE w g xs) (hx : 0 < xs.length) (k : Vs w b [.slice A n c]) : g ≠ b := by
 rintro rfl
 obtain ⟨e, he⟩ : ∃ e, xs[0]? = some e := ⟨_, List.getElem?_eq_getElem hx⟩
 have h1 := (h.rowE 0 e he).1
 have h2 := k.cell 0 _ rfl
 rw [Nat.zero_mul, Nat.add_zero] at h1
 rw [h1] at h2
 cases h2
def LE9 (sb gb pb ab tb aw gp gt : Nat) : Nat → Prop := fun q => q = sb ∨ q = gb ∨ q = pb ∨ q = ab ∨ q = tb ∨ q = aw ∨ q = gp ∨ q = gt
theorem lawq_blocks (sb gb pb ab tb aw gp gt kb ar B0 gi gj m : Nat) (rb : Nat → Nat) (hsb : sb < B0) (haw : aw < B0) (hab : ab < aw) (htb : tb < aw) (hgt : gt < aw) (hpb : pb < aw) (hgp : gp < aw) (has : aw ≤ sb) (hrb : ∀ i, i < ar → B0 ≤ rb i ∧ rb i < kb) (hB : B0 ≤ kb)
  (h1 : gb < gi) (h2 : gb < gj) (h3 : gi < m) (h4 : gj < m) (h5 : m ≤ pb) (h6 : m ≤ gp) (h7 : m ≤ ab) (h8 : m ≤ tb) (h9 : m ≤ gt) :
  (∀ q, LE9 sb gb pb ab tb aw gp gt q → q < B0) ∧ (∀ q, LE9 sb gb pb ab tb aw gp gt q → q ≠ gi ∧ q ≠ gj) ∧ (∀ q, (q = kb ∨ (∃ i, i < ar ∧ q = rb i) ∨ LE9 sb gb pb ab tb aw gp gt q) → q ≠ gi ∧ q ≠ gj) := by
 have a1 : ∀ q, LE9 sb gb pb ab tb aw gp gt q → q < B0 := fun q h => by
  unfold LE9 at h
  omega
 have a2 : ∀ q, LE9 sb gb pb ab tb aw gp gt q → q ≠ gi ∧ q ≠ gj := fun q h => by
  unfold LE9 at h
  omega
 refine ⟨a1, a2, fun q h => ?_⟩
 rcases h with rfl | ⟨i, hia, rfl⟩ | h
 ·omega
 ·have := hrb i hia
  omega
 ·exact a2 q h

end Go.Proofs.YtfbfbijkkbflkaaGreatDoor
