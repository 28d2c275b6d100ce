/-
 RunAll, Sls, Sm, Pl, Nt, Pd, Rt, Rw: what the statements of this layer share.
-/
import Derived.Test.YtfbfbijkkbflkaaGreatDoorMas
import Derived.Test.YtfbfbijkkbflkaaGreatDoorMat
namespace Go.Proofs.YtfbfbijkkbflkaaGreatDoor
open Go.RowKit Fm
set_option linter.unusedVariables false
set_option maxRecDepth 100000

section
variable {f : Nat} (hf : IsF f)
include hf

theorem circuit_RunOk (y : CK) (hy : y.ok) (hcl : y.calls ≤ 511) (part : Fin (Pm f)) (sh : Nat) (hsh : sh = 1 ∨ sh = 2) (hpart : part = kinv (nK f sh)) (v j : KL f) (g : Nat) (cap : Array Value) (D : Nat → Prop) (Inv : Nat → (Nat → Prop) → World → Prop) (ans : Nat → Fin (Pm f)) (cd : Int)
  (HA : Asked y v j part g cap Inv ans cd) (hl : v.length = y.nin) (hjl : j.length = y.joint) (vl vj : Value) (w : World) (hin : SlX D w vl v) (hjo : SlX D w vj j) (hinv : St (Inv 0) D w) :
  Calls Tryz.prog 32 #[y.val f, vl, vj, .int .i64 (sh : Int), .func (.func g) #[] cap] w (RetRun (runF y v j part ans) y.calls cd Inv D w) := by
 have HC : Hid (∀ wz, Calls Tryz.prog 48 #[y.val f] wz (RetC 0 wz)) := fun wz => by
  have h := circuit_Check_ok hf y hy wz
  rwa [CK.code_ok (by omega)] at h
 have HI : Hid (∀ wz, Calls Tryz.prog 42 #[y.val f] wz (RetI v.length wz)) := fun wz => by
  rw [hl]
  exact circuit_In f y hy wz
 have HJ : Hid (∀ wz, Calls Tryz.prog 14 #[y.val f] wz (RetI j.length wz)) := fun wz => by
  rw [hjl]
  exact circuit_Joint f y hy wz
 cases y with
 | count => exact circuit_Run_count hf 0 0 0 0 part sh hsh hpart v j g cap D Inv ans cd HA hl hjl HC HI HJ vl vj w hin hjo hinv
 | sum b => exact circuit_Run_sum hf b hy.1 hy.2 0 0 0 part sh hsh hpart v j g cap D Inv ans cd HA hl hjl HC HI HJ vl vj w hin hjo hinv
 | vec b l c => exact circuit_Run_vec hf b l c hy hcl part sh hsh hpart v j g cap D Inv ans cd HA hl hjl HC HI HJ vl vj w hin hjo hinv
 | hist l c => exact circuit_Run_hist hf l c hy hcl part sh hsh hpart v j g cap D Inv ans cd HA hl hjl HC HI HJ vl vj w hin hjo hinv
 | multi l m c => exact circuit_Run_multi hf l m c hy hcl part sh hsh hpart v j g cap D Inv ans cd HA hl hjl HC HI HJ vl vj w hin hjo hinv
end

end Go.Proofs.YtfbfbijkkbflkaaGreatDoor

namespace Go.Proofs.YtfbfbijkkbflkaaGreatDoor
open Go.RowKit Fm
set_option linter.unusedVariables false
set_option maxRecDepth 100000

def IsSl (u : Value) : Prop := ∃ (A : Option Addr) (n c : Nat), u = .slice A n c
theorem info_sl : (Tryz.prog.info? 24).map (fun i => (i.zero, i.size, i.bytes)) = some (some (.slice none 0 0), 1, 24) := by kernel_rfl
theorem isSl_one {u : Value} (h : IsSl u) : u.oneCell' = true := by
 obtain ⟨A, n, c, rfl⟩ := h
 rfl

theorem run_append_S (w : World) (base : Nat) (ty : TypeId) (v : Value) (n : Nat) (vs : List Value) (hown : w.ownsRow base 24 1 v n vs) (b o c : Nat) (u : Value) (hu : IsSl u) (hcell : w.cell? ⟨b, o, none⟩ = some u) (hbound : n + 1 ≤ 1000000) (hbase : base ≤ w.heap.size) :
  ∃ v' w', (Builtin.append_ #[59, 59] ty #[v, .slice (some ⟨b, o, none⟩) 1 c]).run Tryz.prog w = .ok v' w' ∧ w'.ownsRow base 24 1 v' (n + 1) (vs ++ [u]) ∧ w.grownBy w' v.ownBlock ∧
   (v'.ownBlock = v.ownBlock ∨ v'.ownBlock = some w.heap.size) := by
 obtain ⟨i, hi, hz, h1, h2⟩ := info_parts info_sl
 have hcells : ∀ j u', ([u] : List Value)[j]? = some u' → w.cell? ((⟨b, o, none⟩ : Addr).add j) = some u' := by
  intro j u' hj
  cases j with
  | zero =>
   injection hj with hj
   subst hj
   exact hcell
  | succ j => simp at hj
 obtain ⟨v', w', hrun, h3, h4, _, h5⟩ := run_append_own_at (P := Tryz.prog) w base 59 ty 24 i _ 1 24 Tryz.underlying59 hi hz h1 h2 rfl (by omega) v n _ hown ⟨b, o, none⟩ 1 c [u]
  rfl hcells (fun q hq => by rw [List.mem_singleton.1 hq]; exact isSl_one hu) (by unfold maxLen; omega) (by omega) hbase
 exact ⟨v', w', hrun, h3, h4, h5⟩

theorem wpList_append_S {w : World} {ops : Array Oper} {rest : List Oper} {o : Oper} {a : Act} {Q : Exit → Act → World → Prop} (hgd : o.guard = none) (s x : Operand)
  (ho : o.op = .call { callee := .builtin .append, args := #[s, x], argTypes := #[59, 59] })
  (base : Nat) (v : Value) (n : Nat) (vs : List Value) (hs : a.eval s = v) (hown : w.ownsRow base 24 1 v n vs) (b c : Nat) (u : Value) (hx : a.eval x = .slice (some ⟨b, 0, none⟩) 1 c)
  (hu : IsSl u) (hcell : w.cell? ⟨b, 0, none⟩ = some u) (hbound : n + 1 ≤ 1000000) (hbase : base ≤ w.heap.size)
  (h : ∀ v' w', w'.ownsRow base 24 1 v' (n + 1) (vs ++ [u]) → w.grownBy w' v.ownBlock → (v'.ownBlock = v.ownBlock ∨ v'.ownBlock = some w.heap.size) → wpList Tryz.prog ops Q rest (a.put o.dst v') w') : wpList Tryz.prog ops Q (o :: rest) a w := by
 obtain ⟨v', w', hrun, h2, h3, h4⟩ := run_append_S w base o.type v n vs hown b 0 c u hu hcell hbound hbase
 refine wpList_plain hgd fun K hK => ?_
 unfold Oper.wp execOp
 simp only [ho, resolve, invoke, builtin, Sem.run_bind, Sem.run_pure, Result.andThen_ok, List.map_toArray, List.map_cons, List.map_nil, hs, hx, hrun]
 exact hK _ _ (h v' w' h2 h3 h4)

def RowS (w : World) (b o : Nat) (vs : List Value) : Prop := ∀ (i : Nat) (u : Value), vs[i]? = some u → w.cell? ⟨b, o + i, none⟩ = some u
theorem RowS.below {w w' : World} {B b o : Nat} {vs : List Value} (h : RowS w b o vs) (hb : Below B w w') (hB : b < B) : RowS w' b o vs :=
 fun i u hi => (hb.cell (p := ⟨b, o + i, none⟩) hB).trans (h i u hi)
theorem own_rowS {w : World} {base n : Nat} {v : Value} {vs : List Value} (hn : 0 < n) (h : w.ownsRow base 24 1 v n vs) : ∃ g c, v = .slice (some ⟨g, 0, none⟩) n c ∧ RowS w g 0 vs ∧ base ≤ g ∧ g < w.heap.size ∧ vs.length = n ∧ n ≤ c := by
 have hl := h.1
 rcases h.2 with ⟨_, h0⟩ | ⟨g, cap, cur, hv, hb, hg, hnc, hcm, hcs, ht⟩
 ·omega
 ·refine ⟨g, cap, hv, fun i u hi => ?_, hb, (Array.getElem?_eq_some_iff.1 hg).1, by omega, hnc⟩
  rw [← ht] at hi
  have hlt : i < n * 1 := by
   obtain ⟨h1, _⟩ := List.getElem?_eq_some_iff.1 hi
   rw [List.length_take] at h1
   omega
  rw [List.getElem?_take_of_lt hlt] at hi
  simp [World.cell?, hg]
  simpa using hi

structure PsK {f : Nat} (w : World) (vs : List Value) (ps : List (KL f)) : Prop where
 len : vs.length = ps.length
 at' : ∀ (i : Nat) (v : Value) (p : KL f), vs[i]? = some v → ps[i]? = some p → SlK w w.heap.size v p
theorem PsK.later {f : Nat} {w w' : World} {vs : List Value} {ps : List (KL f)} (h : PsK w vs ps) (hb : Below w.heap.size w w') : PsK w' vs ps :=
 ⟨h.len, fun i v p h1 h2 => (h.at' i v p h1 h2).later hb⟩
theorem PsK.nil {f : Nat} (w : World) : PsK w [] ([] : List (KL f)) := ⟨rfl, fun i v p h => by cases h⟩
theorem PsK.snoc {f : Nat} {w : World} {vs : List Value} {ps : List (KL f)} (h : PsK w vs ps) {v : Value} {p : KL f} (hv : SlK w w.heap.size v p) : PsK w (vs ++ [v]) (ps ++ [p]) := by
 refine ⟨by rw [List.length_append, List.length_append, h.len]; rfl, fun i u q h1 h2 => ?_⟩
 by_cases hi : i < vs.length
 ·rw [List.getElem?_append_left hi] at h1
  rw [List.getElem?_append_left (by rw [← h.len]; exact hi)] at h2
  exact h.at' i u q h1 h2
 ·rw [List.getElem?_append_right (by omega)] at h1
  rw [List.getElem?_append_right (by rw [← h.len]; omega), ← h.len] at h2
  obtain ⟨k, hk⟩ : ∃ k, i - vs.length = k := ⟨_, rfl⟩
  rw [hk] at h1 h2
  cases k with
  | zero =>
   injection h1 with h1
   injection h2 with h2
   subst h1
   subst h2
   exact hv
  | succ k => simp at h1
theorem PsK.get {f : Nat} {w : World} {vs : List Value} {ps : List (KL f)} (h : PsK w vs ps) {i : Nat} {p : KL f} (hp : ps[i]? = some p) : ∃ v, vs[i]? = some v ∧ SlK w w.heap.size v p := by
 obtain ⟨hlt, _⟩ := List.getElem?_eq_some_iff.1 hp
 have hv : vs[i]? = some (vs[i]'(by rw [h.len]; exact hlt)) := List.getElem?_eq_getElem _
 exact ⟨_, hv, h.at' _ _ _ hv hp⟩

end Go.Proofs.YtfbfbijkkbflkaaGreatDoor

namespace Go.Proofs.YtfbfbijkkbflkaaGreatDoor.Fm
set_option linter.unusedVariables false

section
variable {p : Nat} [NeZero p]

def sm (g : Nat → Fin p) : Nat → Fin p
 | 0 => 0
 | n + 1 => sm g n + g n
theorem sm_zero (g : Nat → Fin p) : sm g 0 = 0 := rfl
theorem sm_succ (g : Nat → Fin p) (n : Nat) : sm g (n + 1) = sm g n + g n := rfl
theorem sm_congr {g h : Nat → Fin p} : ∀ {n : Nat}, (∀ i, i < n → g i = h i) → sm g n = sm h n
 | 0, _ => rfl
 | n + 1, hh => by rw [sm_succ, sm_succ, sm_congr (fun i hi => hh i (by omega)), hh n (by omega)]
theorem sm_none {g : Nat → Fin p} : ∀ {n : Nat}, (∀ i, i < n → g i = 0) → sm g n = 0
 | 0, _ => rfl
 | n + 1, hh => by rw [sm_succ, sm_none (fun i hi => hh i (by omega)), hh n (by omega)]; grind
theorem sm_add (g h : Nat → Fin p) : ∀ n, sm (fun i => g i + h i) n = sm g n + sm h n
 | 0 => by simp only [sm_zero]; grind
 | n + 1 => by rw [sm_succ, sm_succ, sm_succ, sm_add g h n]; grind
theorem sm_mul (c : Fin p) (g : Nat → Fin p) : ∀ n, sm (fun i => c * g i) n = c * sm g n
 | 0 => by simp only [sm_zero]; grind
 | n + 1 => by rw [sm_succ, sm_succ, sm_mul c g n]; grind
theorem sm_mulr (c : Fin p) (g : Nat → Fin p) (n : Nat) : sm (fun i => g i * c) n = sm g n * c := by
 rw [show (fun i => g i * c) = fun i => c * g i from funext fun i => by grind, sm_mul]
 grind
theorem sm_sub (g h : Nat → Fin p) : ∀ n, sm (fun i => g i - h i) n = sm g n - sm h n
 | 0 => by simp only [sm_zero]; grind
 | n + 1 => by rw [sm_succ, sm_succ, sm_succ, sm_sub g h n]; grind
theorem sm_swap (g : Nat → Nat → Fin p) (m : Nat) : ∀ n, sm (fun i => sm (fun j => g i j) m) n = sm (fun j => sm (fun i => g i j) n) m
 | 0 => by
  rw [sm_zero]
  exact (sm_none (fun i _ => rfl)).symm
 | n + 1 => by
  rw [sm_succ, sm_swap g m n, ← sm_add]
  rfl
theorem sm_split (g : Nat → Fin p) (m : Nat) : ∀ n, sm g (m + n) = sm g m + sm (fun i => g (m + i)) n
 | 0 => by
  rw [sm_zero, Nat.add_zero]
  grind
 | n + 1 => by
  rw [← Nat.add_assoc, sm_succ, sm_split g m n, sm_succ]
  grind
theorem sm_head (g : Nat → Fin p) (n : Nat) : sm g (n + 1) = g 0 + sm (fun i => g (i + 1)) n := by
 rw [Nat.add_comm, sm_split g 1 n, sm_succ, sm_zero]
 rw [show (fun i => g (1 + i)) = fun i => g (i + 1) from funext fun i => by rw [Nat.add_comm]]
 grind
theorem sm_two (g : Nat → Fin p) : ∀ n, sm g (2 * n) = sm (fun i => g (2 * i)) n + sm (fun i => g (2 * i + 1)) n
 | 0 => by
  rw [Nat.mul_zero, sm_zero, sm_zero, sm_zero]
  grind
 | n + 1 => by
  rw [show 2 * (n + 1) = 2 * n + 1 + 1 by omega, sm_succ, sm_succ, sm_succ, sm_succ, sm_two g n]
  grind
theorem sm_one {g : Nat → Fin p} {k : Nat} : ∀ {n : Nat}, k < n → (∀ i, i < n → i ≠ k → g i = 0) → sm g n = g k
 | 0, h, _ => absurd h (Nat.not_lt_zero _)
 | n + 1, h, hh => by
  rw [sm_succ]
  by_cases hk : k = n
  ·subst hk
   rw [sm_none (fun i hi => hh i (by omega) (by omega))]
   grind
  ·rw [sm_one (n := n) (by omega) (fun i hi hne => hh i (by omega) hne), hh n (by omega) (by omega)]
   grind
theorem sm_more {g : Nat → Fin p} {m n : Nat} (h : m ≤ n) (h0 : ∀ i, m ≤ i → i < n → g i = 0) : sm g n = sm g m := by
 obtain ⟨k, rfl⟩ : ∃ k, n = m + k := ⟨n - m, by omega⟩
 rw [sm_split, sm_none (g := fun i => g (m + i)) (n := k) (fun i hi => h0 _ (by omega) (by omega))]
 grind
theorem sm_const (c : Fin p) : ∀ n, sm (fun _ => c) n = sm (fun _ => 1) n * c
 | 0 => by simp only [sm_zero]; grind
 | n + 1 => by rw [sm_succ, sm_succ, sm_const c n]; grind
theorem geo (x : Fin p) : ∀ n, (x - 1) * sm (fun i => kpow x i) n = kpow x n - 1
 | 0 => by simp only [sm_zero, kpow_zero]; grind
 | n + 1 => by
  have h := geo x n
  rw [sm_succ, kpow_succ]
  grind
theorem zero_kpow (n : Nat) (h : 0 < n) : kpow (0 : Fin p) n = 0 := by
 obtain ⟨k, rfl⟩ : ∃ k, n = k + 1 := ⟨n - 1, by omega⟩
 rw [kpow_succ]
 grind
end

/-! ### a root of 1 -/
section
variable {f : Nat}

structure Rt (r : Fin (Pm f)) (L : Nat) : Prop where
 one : kpow r (2 ^ L) = 1
 ne : ∀ d, 0 < d → d < 2 ^ L → kpow r d ≠ 1

theorem k_cancel {a b c : Fin (Pm f)} (h : a ≠ 0) (he : a * b = a * c) : b = c := by
 rcases k_mul_eq_zero a (b - c) (by grind) with h1 | h1
 ·exact absurd h1 h
 ·grind
theorem Rt.ne_zero {r : Fin (Pm f)} {L : Nat} (h : Rt r L) : r ≠ 0 := by
 intro e
 have h1 := h.one
 rw [e, zero_kpow _ (Nat.two_pow_pos L)] at h1
 exact k_one_ne h1.symm
theorem kpow_ne {r : Fin (Pm f)} (h : r ≠ 0) : ∀ n, kpow r n ≠ 0
 | 0 => k_one_ne
 | n + 1 => fun e => by
  rw [kpow_succ] at e
  rcases k_mul_eq_zero _ _ e with h1 | h1
  ·exact kpow_ne h n h1
  ·exact h h1
theorem Rt.half {r : Fin (Pm f)} {L : Nat} (h : Rt r (L + 1)) : kpow r (2 ^ L) = -1 := by
 have h1 := h.one
 rw [Nat.pow_succ, Nat.mul_two, kpow_add] at h1
 have h2 := h.ne (2 ^ L) (Nat.two_pow_pos L) (by rw [Nat.pow_succ]; have := Nat.two_pow_pos L; omega)
 rcases k_mul_eq_zero (kpow r (2 ^ L) - 1) (kpow r (2 ^ L) + 1) (by grind) with h3 | h3
 ·exact absurd (by grind) h2
 ·grind
theorem Rt.sq {r : Fin (Pm f)} {L : Nat} (h : Rt r (L + 1)) : Rt (r * r) L := by
 have e : r * r = kpow r 2 := by rw [kpow_succ, kpow_one]
 refine ⟨?_, fun d h0 h1 => ?_⟩
 ·rw [e, ← kpow_mul, Nat.mul_comm, ← Nat.pow_succ]
  exact h.one
 ·rw [e, ← kpow_mul]
  exact h.ne _ (by omega) (by rw [Nat.pow_succ]; omega)
theorem Rt.inv {r s : Fin (Pm f)} {L : Nat} (h : Rt r L) (hs : r * s = 1) : Rt s L := by
 have e : ∀ n, kpow r n * kpow s n = 1 := fun n => by rw [← mul_kpow, hs, one_kpow]
 refine ⟨?_, fun d h0 h1 h2 => h.ne d h0 h1 ?_⟩
 ·have h1 := e (2 ^ L)
  rw [h.one] at h1
  grind
 ·have h3 := e d
  rw [h2] at h3
  grind
theorem Rt.inj {r : Fin (Pm f)} {L i j : Nat} (h : Rt r L) (hi : i < 2 ^ L) (hj : j < 2 ^ L) (he : kpow r i = kpow r j) : i = j := by
 have aux : ∀ i j : Nat, i < j → j < 2 ^ L → kpow r i = kpow r j → False := by
  intro i j hij hj he
  refine h.ne (j - i) (by omega) (by omega) ?_
  have h1 : kpow r j = kpow r i * kpow r (j - i) := by rw [← kpow_add]; congr 1; omega
  rw [h1] at he
  exact k_cancel (a := kpow r i) (kpow_ne h.ne_zero _) (by grind)
 rcases Nat.lt_trichotomy i j with h1 | h1 | h1
 ·exact (aux i j h1 hj he).elim
 ·exact h1
 ·exact (aux j i h1 hi he.symm).elim
theorem round_trip {r s : Fin (Pm f)} {L : Nat} (h : Rt r L) (hs : r * s = 1) (a : Nat → Fin (Pm f)) (i : Nat) (hi : i < 2 ^ L) :
  sm (fun k => sm (fun j => a j * kpow r (k * j)) (2 ^ L) * kpow s (i * k)) (2 ^ L) = sm (fun _ => 1) (2 ^ L) * a i := by
 have hss := h.inv hs
 have e : ∀ n, kpow r n * kpow s n = 1 := fun n => by rw [← mul_kpow, hs, one_kpow]
 rw [sm_congr (h := fun k => sm (fun j => a j * kpow r (k * j) * kpow s (i * k)) (2 ^ L)) (fun k _ => (sm_mulr _ _ _).symm), sm_swap]
 rw [sm_one (k := i) hi]
 ·rw [sm_congr (h := fun _ => a i) (fun k _ => ?_), sm_const]
  have h1 := e (k * i)
  rw [Nat.mul_comm i k]
  grind
 ·intro j hj hne
  rw [sm_congr (h := fun k => a j * kpow (kpow r j * kpow s i) k) (fun k _ => ?_), sm_mul]
  ·have hx : kpow r j * kpow s i - 1 ≠ 0 := by
    intro h0
    apply hne
    refine h.inj hj hi (k_cancel (a := kpow s i) (kpow_ne hss.ne_zero _) ?_)
    have h1 := e i
    grind
   have hg := geo (kpow r j * kpow s i) (2 ^ L)
   rw [mul_kpow, ← kpow_mul, ← kpow_mul, Nat.mul_comm j, Nat.mul_comm i, kpow_mul, kpow_mul, h.one, hss.one, one_kpow, one_kpow] at hg
   rcases k_mul_eq_zero _ _ (show (kpow r j * kpow s i - 1) * sm (fun k => kpow (kpow r j * kpow s i) k) (2 ^ L) = 0 by rw [hg]; grind) with h1 | h1
   ·exact absurd h1 hx
   ·rw [h1]
    grind
  ·rw [mul_kpow, ← kpow_mul, ← kpow_mul, Nat.mul_comm j k]
   grind
end

end Go.Proofs.YtfbfbijkkbflkaaGreatDoor.Fm

namespace Go.Proofs.YtfbfbijkkbflkaaGreatDoor.Fm
set_option linter.unusedVariables false

section
variable {f : Nat}

def ev (x : Fin (Pm f)) (p : List (Fin (Pm f))) : Fin (Pm f) := p.foldr (fun a s => s * x + a) 0
theorem ev_nil (x : Fin (Pm f)) : ev x [] = 0 := rfl
theorem ev_cons (x a : Fin (Pm f)) (p : List (Fin (Pm f))) : ev x (a :: p) = ev x p * x + a := rfl
theorem ev_append (x : Fin (Pm f)) (q : List (Fin (Pm f))) : ∀ p, ev x (p ++ q) = ev x p + kpow x p.length * ev x q
 | [] => by
  rw [List.nil_append, ev_nil, List.length_nil, kpow_zero]
  grind
 | a :: p => by
  rw [List.cons_append, ev_cons, ev_cons, ev_append x q p, List.length_cons, kpow_succ]
  grind
theorem ev_zeros (x : Fin (Pm f)) : ∀ n, ev x (List.replicate n 0) = 0
 | 0 => rfl
 | n + 1 => by
  rw [List.replicate_succ, ev_cons, ev_zeros x n]
  grind
theorem ev_pad (x : Fin (Pm f)) (p : List (Fin (Pm f))) (n : Nat) : ev x (p ++ List.replicate n 0) = ev x p := by
 rw [ev_append, ev_zeros]
 grind
theorem ev_sm (x : Fin (Pm f)) : ∀ p : List (Fin (Pm f)), ev x p = sm (fun i => p.getD i 0 * kpow x i) p.length
 | [] => rfl
 | a :: p => by
  rw [ev_cons, List.length_cons, sm_head, ev_sm x p]
  rw [show (fun i => (a :: p).getD (i + 1) 0 * kpow x (i + 1)) = fun i => p.getD i 0 * kpow x i * x from funext fun i => by
   rw [List.getD_cons_succ, kpow_succ]
   grind, sm_mulr, List.getD_cons_zero, kpow_zero]
  grind
theorem getD_end {p : List (Fin (Pm f))} {i : Nat} (h : p.length ≤ i) : p.getD i 0 = 0 := by rw [List.getD_eq_getElem?_getD, List.getElem?_eq_none h]; rfl
theorem getD_in {p : List (Fin (Pm f))} {i : Nat} (h : i < p.length) : p.getD i 0 = p[i] := by rw [List.getD_eq_getElem?_getD, List.getElem?_eq_getElem h]; rfl
theorem ev_sm' (x : Fin (Pm f)) (p : List (Fin (Pm f))) (n : Nat) (h : p.length ≤ n) : ev x p = sm (fun i => p.getD i 0 * kpow x i) n := by
 rw [ev_sm, sm_more h]
 intro i hi _
 rw [getD_end hi]
 grind

/-! ### without noughts at the end -/
def trim : List (Fin (Pm f)) → List (Fin (Pm f))
 | [] => []
 | a :: p => if trim p = [] ∧ a = 0 then [] else a :: trim p
theorem trim_cons (a : Fin (Pm f)) (p : List (Fin (Pm f))) : trim (a :: p) = if trim p = [] ∧ a = 0 then [] else a :: trim p := rfl
theorem trim_le : ∀ p : List (Fin (Pm f)), (trim p).length ≤ p.length
 | [] => Nat.le_refl _
 | a :: p => by
  rw [trim_cons]
  have := trim_le p
  split
  ·simp
  ·simp only [List.length_cons]
   omega
theorem trim_take : ∀ p : List (Fin (Pm f)), trim p = p.take (trim p).length
 | [] => rfl
 | a :: p => by
  rw [trim_cons]
  split
  ·rfl
  ·rw [List.length_cons, List.take_succ_cons, ← trim_take p]
theorem trim_getD : ∀ (p : List (Fin (Pm f))) (i : Nat), (trim p).getD i 0 = p.getD i 0
 | [], i => rfl
 | a :: p, i => by
  rw [trim_cons]
  split
  ·rename_i h
   cases i with
   | zero => rw [List.getD_cons_zero, h.2]; rfl
   | succ i =>
    rw [List.getD_cons_succ, ← trim_getD p i, h.1]
    rfl
  ·cases i with
   | zero => rfl
   | succ i => rw [List.getD_cons_succ, List.getD_cons_succ, trim_getD p i]
theorem ev_trim (x : Fin (Pm f)) (p : List (Fin (Pm f))) : ev x (trim p) = ev x p := by
 rw [ev_sm' x (trim p) p.length (trim_le p), ev_sm]
 exact sm_congr fun i _ => by rw [trim_getD]
theorem trim_last : ∀ p : List (Fin (Pm f)), trim p ≠ [] → (trim p).getD ((trim p).length - 1) 0 ≠ 0
 | [], h => absurd rfl h
 | a :: p, h => by
  rw [trim_cons] at h ⊢
  split at h
  ·exact absurd rfl h
  ·rename_i hn
   rw [if_neg hn]
   by_cases hp : trim p = []
   ·rw [hp]
    exact fun e => hn ⟨hp, e⟩
   ·have h1 := trim_last p hp
    have h2 : 0 < (trim p).length := List.length_pos_iff.2 hp
    rw [List.length_cons, show (trim p).length + 1 - 1 = ((trim p).length - 1) + 1 by omega, List.getD_cons_succ]
    exact h1
theorem trim_nil {p : List (Fin (Pm f))} (h : ∀ i, p.getD i 0 = 0) : trim p = [] := by
 rcases Classical.em (trim p = []) with h1 | h1
 ·exact h1
 ·exact absurd (by rw [trim_getD, h]) (trim_last p h1)
theorem trim_eq {p q : List (Fin (Pm f))} (h : ∀ i, p.getD i 0 = q.getD i 0) : trim p = trim q := by
 have hlen : ∀ p q : List (Fin (Pm f)), (∀ i, p.getD i 0 = q.getD i 0) → (trim p).length ≤ (trim q).length := by
  intro p q h
  apply Nat.le_of_not_lt
  intro hlt
  have hne : trim p ≠ [] := List.ne_nil_of_length_pos (by omega)
  apply trim_last p hne
  rw [trim_getD, h, ← trim_getD q]
  exact getD_end (by omega)
 have hl := Nat.le_antisymm (hlen p q h) (hlen q p fun i => (h i).symm)
 refine List.ext_getElem hl fun i h1 h2 => ?_
 rw [← getD_in h1, ← getD_in h2, trim_getD, trim_getD, h]
theorem trim_trim (p : List (Fin (Pm f))) : trim (trim p) = trim p := trim_eq (trim_getD p)
theorem getD_append (p q : List (Fin (Pm f))) (i : Nat) : (p ++ q).getD i 0 = if i < p.length then p.getD i 0 else q.getD (i - p.length) 0 := by
 simp only [List.getD_eq_getElem?_getD]
 split
 ·rename_i h
  rw [List.getElem?_append_left h]
 ·rename_i h
  rw [List.getElem?_append_right (by omega)]
theorem getD_zeros (n i : Nat) : (List.replicate n (0 : Fin (Pm f))).getD i 0 = 0 := by
 rw [List.getD_eq_getElem?_getD, List.getElem?_replicate]
 split <;> rfl
theorem getD_pad (p : List (Fin (Pm f))) (n i : Nat) : (p ++ List.replicate n 0).getD i 0 = p.getD i 0 := by
 rw [getD_append]
 split
 ·rfl
 ·rename_i h
  rw [getD_zeros, getD_end (by omega)]
theorem trim_pad (p : List (Fin (Pm f))) (n : Nat) : trim (p ++ List.replicate n 0) = trim p := trim_eq (getD_pad p n)
theorem getD_take (p : List (Fin (Pm f))) (n i : Nat) : (p.take n).getD i 0 = if i < n then p.getD i 0 else 0 := by
 simp only [List.getD_eq_getElem?_getD, List.getElem?_take]
 split <;> rfl
theorem trim_self {p : List (Fin (Pm f))} (h : p = [] ∨ p.getD (p.length - 1) 0 ≠ 0) : trim p = p := by
 have hl : (trim p).length = p.length := by
  apply Nat.le_antisymm (trim_le p)
  apply Nat.le_of_not_lt
  intro hlt
  rcases h with rfl | h
  ·exact absurd hlt (by simp)
  ·apply h
   rw [← trim_getD]
   exact getD_end (by omega)
 rw [trim_take p, hl, List.take_length]
theorem trim_cut {p : List (Fin (Pm f))} (n : Nat) (hn : n ≤ p.length) (h0 : ∀ i, n ≤ i → p.getD i 0 = 0) (h1 : n = 0 ∨ p.getD (n - 1) 0 ≠ 0) : trim p = p.take n := by
 rw [trim_eq (q := p.take n) fun i => ?_]
 ·apply trim_self
  rcases h1 with rfl | h1
  ·exact .inl (List.take_zero ..)
  ·by_cases hz : n = 0
   ·subst hz
    exact .inl (List.take_zero ..)
   ·right
    rw [List.length_take, Nat.min_eq_left hn, getD_take, if_pos (by omega)]
    exact h1
 ·rw [getD_take]
  split
  ·rfl
  ·rename_i h
   exact h0 i (by omega)

/-! ### roots -/
def sdiv (r : Fin (Pm f)) : List (Fin (Pm f)) → List (Fin (Pm f))
 | [] => []
 | _ :: p => ev r p :: sdiv r p
theorem sdiv_length (r : Fin (Pm f)) : ∀ p : List (Fin (Pm f)), (sdiv r p).length = p.length
 | [] => rfl
 | _ :: p => by rw [sdiv, List.length_cons, List.length_cons, sdiv_length r p]
theorem sdiv_ev (r x : Fin (Pm f)) : ∀ p : List (Fin (Pm f)), ev x p = (x - r) * ev x (sdiv r p) + ev r p
 | [] => by simp only [sdiv, ev_nil]; grind
 | a :: p => by
  rw [sdiv, ev_cons, ev_cons, ev_cons, sdiv_ev r x p]
  grind
theorem sdiv_last (r : Fin (Pm f)) : ∀ p : List (Fin (Pm f)), ∃ q, p ≠ [] → sdiv r p = q ++ [0]
 | [] => ⟨[], fun h => absurd rfl h⟩
 | [a] => ⟨[], fun _ => rfl⟩
 | a :: b :: p => by
  obtain ⟨q, hq⟩ := sdiv_last r (b :: p)
  refine ⟨ev r (b :: p) :: q, fun _ => ?_⟩
  rw [sdiv, hq (by simp)]
  rfl
def pts (f n : Nat) : List (Fin (Pm f)) := (List.range n).map fun i => Fin.ofNat (Pm f) i
theorem Pm_big (f : Nat) : 18446744069414584321 ≤ Pm f := by unfold Pm; split <;> decide
theorem pts_nodup {f n : Nat} (h : n ≤ 18446744069414584321) : (pts f n).Nodup := by
 unfold pts
 have hb := Pm_big f
 rw [List.Nodup, List.pairwise_map]
 refine List.Pairwise.imp_of_mem (fun {a b} ha hb2 hne e => hne ?_) List.nodup_range
 have h1 : a < n := List.mem_range.1 ha
 have h2 : b < n := List.mem_range.1 hb2
 have h3 := congrArg Fin.val e
 simp only [Fin.val_ofNat] at h3
 rwa [Nat.mod_eq_of_lt (by omega), Nat.mod_eq_of_lt (by omega)] at h3
theorem pts_length (f n : Nat) : (pts f n).length = n := by unfold pts; simp
theorem sdiv_zero (r : Fin (Pm f)) : ∀ p : List (Fin (Pm f)), (∀ i, (sdiv r p).getD i 0 = 0) → ev r p = 0 → ∀ i, p.getD i 0 = 0
 | [], _, _, _ => rfl
 | a :: p, h, h0, i => by
  have h1 : ev r p = 0 := h 0
  have h2 := sdiv_zero r p (fun i => by have := h (i + 1); rwa [sdiv, List.getD_cons_succ] at this) h1
  cases i with
  | zero =>
   rw [ev_cons, h1] at h0
   rw [List.getD_cons_zero]
   grind
  | succ i => rw [List.getD_cons_succ, h2]
theorem zero_poly : ∀ (n : Nat) (p : List (Fin (Pm f))), p.length ≤ n → ∀ l : List (Fin (Pm f)), l.Nodup → n ≤ l.length → (∀ x, x ∈ l → ev x p = 0) → ∀ i, p.getD i 0 = 0
 | _, [], _, _, _, _, _, _ => rfl
 | 0, _ :: _, h, _, _, _, _, _ => absurd h (by simp)
 | n + 1, a :: p, h, [], _, hl, _, _ => absurd hl (by simp)
 | n + 1, a :: p, h, r :: l, hn, hl, h0, i => by
  obtain ⟨q, hq⟩ := sdiv_last r (a :: p)
  have hq := hq (by simp)
  have hqe : ∀ y, ev y q = ev y (sdiv r (a :: p)) := fun y => by
   rw [hq, show ([0] : List (Fin (Pm f))) = List.replicate 1 0 from rfl, ev_pad]
  have hql : q.length ≤ n := by
   have h1 := sdiv_length r (a :: p)
   rw [hq, List.length_append, List.length_cons, List.length_cons] at h1
   simp only [List.length_cons, List.length_nil] at h h1
   omega
  have hr := h0 r (by simp)
  obtain ⟨hrl, hnd⟩ := List.nodup_cons.1 hn
  have hz := zero_poly n q hql l hnd (by simp at hl; omega) fun y hy => by
   have h1 := sdiv_ev r y (a :: p)
   rw [h0 y (by simp [hy]), hr] at h1
   rw [hqe]
   rcases k_mul_eq_zero (y - r) (ev y (sdiv r (a :: p))) (by grind) with h2 | h2
   ·exact absurd (show y = r by grind) fun e => hrl (e ▸ hy)
   ·exact h2
  refine sdiv_zero r (a :: p) (fun i => ?_) hr i
  rw [hq, show ([0] : List (Fin (Pm f))) = List.replicate 1 0 from rfl, getD_pad]
  exact hz i

/-! ### a list out of its coefficients -/
def ofF (n : Nat) (g : Nat → Fin (Pm f)) : List (Fin (Pm f)) := (List.range n).map g
theorem ofF_length (n : Nat) (g : Nat → Fin (Pm f)) : (ofF n g).length = n := by unfold ofF; simp
theorem ofF_getD (n : Nat) (g : Nat → Fin (Pm f)) (i : Nat) : (ofF n g).getD i 0 = if i < n then g i else 0 := by
 by_cases h : i < n
 ·rw [if_pos h, getD_in (by rw [ofF_length]; exact h)]
  simp [ofF]
 ·rw [if_neg h, getD_end (by rw [ofF_length]; omega)]
theorem ofF_ev (n : Nat) (g : Nat → Fin (Pm f)) (x : Fin (Pm f)) : ev x (ofF n g) = sm (fun i => g i * kpow x i) n := by
 rw [ev_sm, ofF_length]
 exact sm_congr fun i hi => by rw [ofF_getD, if_pos hi]
theorem eq_ofF {p : List (Fin (Pm f))} {n : Nat} {g : Nat → Fin (Pm f)} (hl : p.length = n) (h : ∀ i, i < n → p.getD i 0 = g i) : p = ofF n g := by
 refine List.ext_getElem (by rw [ofF_length]; exact hl) fun i h1 h2 => ?_
 rw [← getD_in h1, ← getD_in h2, ofF_getD, if_pos (by omega), h i (by omega)]
theorem ext_getD {p q : List (Fin (Pm f))} (hl : p.length = q.length) (h : ∀ i, p.getD i 0 = q.getD i 0) : p = q :=
 List.ext_getElem hl fun i h1 h2 => by rw [← getD_in h1, ← getD_in h2, h]

theorem poly_eq {p q : List (Fin (Pm f))} {N : Nat} (hp : p.length ≤ N) (hq : q.length ≤ N) (hN : N ≤ 18446744069414584321) (l : List (Fin (Pm f))) (hl : l.Nodup) (hN2 : N ≤ l.length) (h : ∀ x, x ∈ l → ev x p = ev x q) : ∀ i, p.getD i 0 = q.getD i 0 := by
 intro i
 have hz := zero_poly N (ofF N fun i => p.getD i 0 - q.getD i 0) (by rw [ofF_length]; exact Nat.le_refl _) l hl hN2 (fun x hx => by
  rw [ofF_ev, show (fun i => (p.getD i 0 - q.getD i 0) * kpow x i) = fun i => p.getD i 0 * kpow x i - q.getD i 0 * kpow x i from funext fun i => by grind, sm_sub, ← ev_sm' x p N hp, ← ev_sm' x q N hq, h x hx]
  grind) i
 rw [ofF_getD] at hz
 split at hz
 ·grind
 ·rw [getD_end (by omega), getD_end (by omega)]
theorem trim_ev {p q : List (Fin (Pm f))} (hp : p.length ≤ 1000000) (hq : q.length ≤ 1000000) (h : ∀ x, ev x p = ev x q) : trim p = trim q :=
 trim_eq (poly_eq hp hq (by omega) (pts f 1000000) (pts_nodup (by omega)) (by rw [pts_length]; exact Nat.le_refl _) fun x _ => h x)

/-! ### sums, products -/
def padd (p q : List (Fin (Pm f))) : List (Fin (Pm f)) := trim (ofF (max p.length q.length) fun i => p.getD i 0 + q.getD i 0)
theorem ev_padd (x : Fin (Pm f)) (p q : List (Fin (Pm f))) : ev x (padd p q) = ev x p + ev x q := by
 unfold padd
 rw [ev_trim, ofF_ev, show (fun i => (p.getD i 0 + q.getD i 0) * kpow x i) = fun i => p.getD i 0 * kpow x i + q.getD i 0 * kpow x i from funext fun i => by grind, sm_add, ← ev_sm' x p _ (Nat.le_max_left ..), ← ev_sm' x q _ (Nat.le_max_right ..)]
def pscale (c : Fin (Pm f)) (p : List (Fin (Pm f))) : List (Fin (Pm f)) := trim (p.map (· * c))
theorem map_getD (c : Fin (Pm f)) (p : List (Fin (Pm f))) (i : Nat) : (p.map (· * c)).getD i 0 = p.getD i 0 * c := by
 by_cases h : i < p.length
 ·rw [getD_in (by simpa using h), getD_in h]
  simp
 ·rw [getD_end (by simpa using h), getD_end (by omega)]
  grind
theorem ev_pscale (x c : Fin (Pm f)) (p : List (Fin (Pm f))) : ev x (pscale c p) = ev x p * c := by
 unfold pscale
 rw [ev_trim, ev_sm, List.length_map, ev_sm, ← sm_mulr]
 exact sm_congr fun i _ => by rw [map_getD]; grind

def cv (a b : Nat → Fin (Pm f)) (k : Nat) : Fin (Pm f) := sm (fun i => a i * b (k - i)) (k + 1)
theorem cv_tri (a b : Nat → Fin (Pm f)) (x : Fin (Pm f)) : ∀ N, sm (fun k => cv a b k * kpow x k) N = sm (fun i => a i * kpow x i * sm (fun j => b j * kpow x j) (N - i)) N
 | 0 => rfl
 | N + 1 => by
  rw [sm_succ, cv_tri a b x N, sm_succ (fun i => a i * kpow x i * sm (fun j => b j * kpow x j) (N + 1 - i))]
  rw [sm_congr (g := fun i => a i * kpow x i * sm (fun j => b j * kpow x j) (N + 1 - i)) (h := fun i => a i * kpow x i * sm (fun j => b j * kpow x j) (N - i) + a i * b (N - i) * kpow x N) (n := N) fun i hi => ?_, sm_add]
  ·rw [show N + 1 - N = 0 + 1 by omega, sm_succ, sm_zero, kpow_zero, sm_mulr]
   unfold cv
   rw [sm_succ, Nat.sub_self]
   grind
  ·rw [show N + 1 - i = (N - i) + 1 by omega, sm_succ]
   have h1 : kpow x N = kpow x i * kpow x (N - i) := by rw [← kpow_add]; congr 1; omega
   rw [h1]
   grind
theorem cv_none {a b : Nat → Fin (Pm f)} {m n k : Nat} (ha : ∀ i, m ≤ i → a i = 0) (hb : ∀ i, n ≤ i → b i = 0) (h : m + n ≤ k + 1) (h0 : 0 < m + n) : cv a b k = 0 := by
 refine sm_none fun i hi => ?_
 by_cases him : i < m
 ·rw [hb (k - i) (by omega)]
  grind
 ·rw [ha i (by omega)]
  grind
theorem cv_last {a b : Nat → Fin (Pm f)} {m n : Nat} (ha : ∀ i, m < i → a i = 0) (hb : ∀ i, n < i → b i = 0) : cv a b (m + n) = a m * b n := by
 unfold cv
 rw [sm_one (k := m) (by omega), Nat.add_sub_cancel_left]
 intro i hi hne
 by_cases him : i < m
 ·rw [hb (m + n - i) (by omega)]
  grind
 ·rw [ha i (by omega)]
  grind
theorem cv_ev {a b : Nat → Fin (Pm f)} {m n N : Nat} (ha : ∀ i, m ≤ i → a i = 0) (hb : ∀ i, n ≤ i → b i = 0) (h : m + n ≤ N + 1) (h0 : 0 < m + n) (x : Fin (Pm f)) :
  sm (fun k => cv a b k * kpow x k) N = sm (fun i => a i * kpow x i) m * sm (fun i => b i * kpow x i) n := by
 rw [← sm_more (m := N) (n := N + 1) (g := fun k => cv a b k * kpow x k) (by omega) (fun k h1 h2 => by rw [cv_none ha hb (by omega) h0]; grind), cv_tri, sm_more (m := m) (by omega) (fun i h1 h2 => by rw [ha i h1]; grind), ← sm_mulr]
 refine sm_congr fun i hi => ?_
 rw [sm_more (m := n) (n := N + 1 - i) (by omega) (fun j h1 h2 => by rw [hb j h1]; grind)]

def prodL (p q : List (Fin (Pm f))) : List (Fin (Pm f)) := ofF (p.length + q.length - 1) (cv (fun i => p.getD i 0) (fun i => q.getD i 0))
theorem prodL_ev (x : Fin (Pm f)) (p q : List (Fin (Pm f))) : ev x (prodL p q) = ev x p * ev x q := by
 unfold prodL
 rw [ofF_ev]
 by_cases h : 0 < p.length + q.length
 ·rw [cv_ev (m := p.length) (n := q.length) (fun i => getD_end) (fun i => getD_end) (by omega) h, ← ev_sm, ← ev_sm]
 ·have h1 : p.length = 0 := by omega
  have h2 : q.length = 0 := by omega
  obtain rfl := List.length_eq_zero_iff.1 h1
  obtain rfl := List.length_eq_zero_iff.1 h2
  rw [ev_nil]
  show (0 : Fin (Pm f)) = 0 * 0
  grind
def pmul (p q : List (Fin (Pm f))) : List (Fin (Pm f)) := trim (prodL p q)
theorem prodL_trim {p q : List (Fin (Pm f))} (hp : trim p = p) (hq : trim q = q) (hp0 : p ≠ []) (hq0 : q ≠ []) : trim (prodL p q) = prodL p q := by
 have h1 : 0 < p.length := List.length_pos_iff.2 hp0
 have h2 : 0 < q.length := List.length_pos_iff.2 hq0
 apply trim_self
 right
 unfold prodL
 rw [ofF_length, ofF_getD, if_pos (by omega), show p.length + q.length - 1 - 1 = (p.length - 1) + (q.length - 1) by omega, cv_last (fun i hi => getD_end (by omega)) (fun i hi => getD_end (by omega))]
 have h3 := trim_last p (by rw [hp]; exact hp0)
 have h4 := trim_last q (by rw [hq]; exact hq0)
 rw [hp] at h3
 rw [hq] at h4
 intro e
 rcases k_mul_eq_zero _ _ e with h | h
 ·exact h3 h
 ·exact h4 h
end

end Go.Proofs.YtfbfbijkkbflkaaGreatDoor.Fm

namespace Go.Proofs.YtfbfbijkkbflkaaGreatDoor.Fm
set_option linter.unusedVariables false

def rev : Nat → Nat → Nat
 | 0, _ => 0
 | L + 1, i => i % 2 * 2 ^ L + rev L (i / 2)
theorem rev_lt : ∀ L i, rev L i < 2 ^ L
 | 0, _ => by simp [rev]
 | L + 1, i => by
  have h := rev_lt L (i / 2)
  have h2 : i % 2 < 2 := Nat.mod_lt _ (by omega)
  rw [rev, Nat.pow_succ]
  have h3 : i % 2 * 2 ^ L ≤ 1 * 2 ^ L := Nat.mul_le_mul_right _ (by omega)
  omega
theorem rev_rev : ∀ L, L ≤ 10 → ∀ i, i < 2 ^ L → rev L (rev L i) = i := by
 have h : ∀ L, L < 11 → ∀ i, i < 2 ^ L → rev L (rev L i) = i := by decide +kernel
 exact fun L hL => h L (by omega)
theorem rev_even (L B : Nat) : rev (L + 1) (2 * B) = rev L B := by rw [rev, show 2 * B % 2 = 0 by omega, show 2 * B / 2 = B by omega, Nat.zero_mul, Nat.zero_add]
theorem rev_odd (L B : Nat) : rev (L + 1) (2 * B + 1) = 2 ^ L + rev L B := by rw [rev, show (2 * B + 1) % 2 = 1 by omega, show (2 * B + 1) / 2 = B by omega, Nat.one_mul]

section
variable {f : Nat}

def stg (a : Nat → Fin (Pm f)) (r : Fin (Pm f)) (s t q : Nat) : Fin (Pm f) :=
 sm (fun j => a (j * 2 ^ t + rev t (q / 2 ^ s)) * kpow (kpow r (2 ^ t)) (q % 2 ^ s * j)) (2 ^ s)
theorem stg_zero (a : Nat → Fin (Pm f)) (r : Fin (Pm f)) (t q : Nat) : stg a r 0 t q = a (rev t q) := by
 unfold stg
 rw [Nat.pow_zero, sm_succ, sm_zero, Nat.div_one, Nat.mod_one, Nat.zero_mul, Nat.zero_mul, Nat.zero_add, kpow_zero]
 grind
theorem stg_last (a : Nat → Fin (Pm f)) (r : Fin (Pm f)) (L q : Nat) (h : q < 2 ^ L) : stg a r L 0 q = sm (fun j => a j * kpow r (q * j)) (2 ^ L) := by
 unfold stg
 refine sm_congr fun j hj => ?_
 rw [Nat.pow_zero, Nat.mul_one, kpow_one, Nat.mod_eq_of_lt h]
 rfl
theorem div_blk {s B i : Nat} (h : i < 2 ^ s) : (B * 2 ^ s + i) / 2 ^ s = B ∧ (B * 2 ^ s + i) % 2 ^ s = i := by
 have h0 := Nat.two_pow_pos s
 rw [Nat.mul_comm, Nat.mul_add_div h0, Nat.mul_add_mod, Nat.div_eq_of_lt h, Nat.mod_eq_of_lt h]
 exact ⟨rfl, rfl⟩
theorem stg_at (a : Nat → Fin (Pm f)) (r : Fin (Pm f)) (s t B i : Nat) (h : i < 2 ^ s) :
  stg a r s t (B * 2 ^ s + i) = sm (fun j => a (j * 2 ^ t + rev t B) * kpow (kpow r (2 ^ t)) (i * j)) (2 ^ s) := by
 unfold stg
 rw [(div_blk h).1, (div_blk h).2]
theorem stg_step (a : Nat → Fin (Pm f)) (r : Fin (Pm f)) (s t B i : Nat) (h : i < 2 ^ s) (hr : Rt r (s + 1 + t)) :
  stg a r (s + 1) t (B * 2 ^ (s + 1) + i) = stg a r s (t + 1) (B * 2 ^ (s + 1) + i) + stg a r s (t + 1) (B * 2 ^ (s + 1) + i + 2 ^ s) * kpow (kpow r (2 ^ t)) i ∧
  stg a r (s + 1) t (B * 2 ^ (s + 1) + i + 2 ^ s) = stg a r s (t + 1) (B * 2 ^ (s + 1) + i) - stg a r s (t + 1) (B * 2 ^ (s + 1) + i + 2 ^ s) * kpow (kpow r (2 ^ t)) i := by
 have hp : 2 ^ (s + 1) = 2 * 2 ^ s := by rw [Nat.pow_succ, Nat.mul_comm]
 have ht : 2 ^ (t + 1) = 2 * 2 ^ t := by rw [Nat.pow_succ, Nat.mul_comm]
 have e1 : B * 2 ^ (s + 1) + i = (2 * B) * 2 ^ s + i := by rw [hp, ← Nat.mul_assoc, Nat.mul_comm B 2]
 have e2 : B * 2 ^ (s + 1) + i + 2 ^ s = (2 * B + 1) * 2 ^ s + i := by rw [e1, Nat.add_mul, Nat.one_mul]; omega
 have e3 : B * 2 ^ (s + 1) + i + 2 ^ s = B * 2 ^ (s + 1) + (i + 2 ^ s) := by omega
 obtain ⟨w, hw⟩ : ∃ w, kpow r (2 ^ t) = w := ⟨_, rfl⟩
 have hw2 : kpow r (2 ^ (t + 1)) = w * w := by rw [ht, Nat.two_mul, kpow_add, hw]
 have hh : kpow w (2 ^ s) = -1 := by
  rw [← hw, ← kpow_mul, ← Nat.pow_add]
  have h1 : Rt r ((t + s) + 1) := by rw [show t + s + 1 = s + 1 + t by omega]; exact hr
  exact h1.half
 have hx : stg a r s (t + 1) (B * 2 ^ (s + 1) + i) = sm (fun j => a (2 * j * 2 ^ t + rev t B) * kpow w (2 * (i * j))) (2 ^ s) := by
  rw [e1, stg_at a r s (t + 1) (2 * B) i h, hw2]
  refine sm_congr fun j _ => ?_
  rw [rev_even, ht, ← Nat.mul_assoc, Nat.mul_comm j 2, Nat.two_mul (i * j), kpow_add, mul_kpow]
 have hy : stg a r s (t + 1) (B * 2 ^ (s + 1) + i + 2 ^ s) = sm (fun j => a ((2 * j + 1) * 2 ^ t + rev t B) * kpow w (2 * (i * j))) (2 ^ s) := by
  rw [e2, stg_at a r s (t + 1) (2 * B + 1) i h, hw2]
  refine sm_congr fun j _ => ?_
  rw [rev_odd, ht, ← Nat.mul_assoc, Nat.mul_comm j 2, Nat.two_mul (i * j), kpow_add, mul_kpow, Nat.add_mul, Nat.one_mul, Nat.add_assoc]
 constructor
 ·rw [hx, hy, stg_at a r (s + 1) t B i (by rw [hp]; omega), hw, hp, sm_two, ← sm_mulr]
  congr 1
  ·refine sm_congr fun j _ => ?_
   rw [show i * (2 * j) = 2 * (i * j) by rw [Nat.mul_left_comm]]
  ·refine sm_congr fun j _ => ?_
   rw [show i * (2 * j + 1) = 2 * (i * j) + i by rw [Nat.mul_add, Nat.mul_left_comm, Nat.mul_one], kpow_add]
   grind
 ·rw [hx, hy, e3, stg_at a r (s + 1) t B (i + 2 ^ s) (by rw [hp]; omega), hw, hp, sm_two, ← sm_mulr]
  have hone : ∀ j, kpow w ((2 ^ s) * (2 * j)) = 1 := fun j => by
   rw [kpow_mul, hh, kpow_mul, show kpow (-1 : Fin (Pm f)) 2 = 1 by rw [kpow_succ, kpow_one]; grind, one_kpow]
  have h1 : sm (fun j => a (2 * j * 2 ^ t + rev t B) * kpow w ((i + 2 ^ s) * (2 * j))) (2 ^ s) = sm (fun j => a (2 * j * 2 ^ t + rev t B) * kpow w (2 * (i * j))) (2 ^ s) := by
   refine sm_congr fun j _ => ?_
   rw [Nat.add_mul, kpow_add, hone, show i * (2 * j) = 2 * (i * j) by rw [Nat.mul_left_comm]]
   grind
  have h2 : sm (fun j => a ((2 * j + 1) * 2 ^ t + rev t B) * kpow w ((i + 2 ^ s) * (2 * j + 1))) (2 ^ s) = sm (fun j => (-1) * (a ((2 * j + 1) * 2 ^ t + rev t B) * kpow w (2 * (i * j)) * kpow w i)) (2 ^ s) := by
   refine sm_congr fun j _ => ?_
   rw [show (i + 2 ^ s) * (2 * j + 1) = i * (2 * j) + 2 ^ s * (2 * j) + (i + 2 ^ s) by rw [Nat.mul_add, Nat.mul_one, Nat.add_mul], kpow_add, kpow_add, kpow_add, hone, hh, show i * (2 * j) = 2 * (i * j) by rw [Nat.mul_left_comm]]
   grind
  rw [h1, h2, sm_mul]
  grind

def mid (a : Nat → Fin (Pm f)) (r : Fin (Pm f)) (s t B i q : Nat) : Fin (Pm f) :=
 if q / 2 ^ (s + 1) < B ∨ (q / 2 ^ (s + 1) = B ∧ q % 2 ^ s < i) then stg a r (s + 1) t q else stg a r s (t + 1) q
theorem mid_start (a : Nat → Fin (Pm f)) (r : Fin (Pm f)) (s t q : Nat) : mid a r s t 0 0 q = stg a r s (t + 1) q := by
 unfold mid
 rw [if_neg fun h => h.elim (Nat.not_lt_zero _) fun h => Nat.not_lt_zero _ h.2]
theorem mid_next (a : Nat → Fin (Pm f)) (r : Fin (Pm f)) (s t B q : Nat) : mid a r s t B (2 ^ s) q = mid a r s t (B + 1) 0 q := by
 unfold mid
 have h : q % 2 ^ s < 2 ^ s := Nat.mod_lt _ (Nat.two_pow_pos s)
 by_cases h1 : q / 2 ^ (s + 1) < B + 1
 ·rw [if_pos (by omega), if_pos (by omega)]
 ·rw [if_neg (by omega), if_neg (by omega)]
theorem mid_end (a : Nat → Fin (Pm f)) (r : Fin (Pm f)) (s t q : Nat) (h : q < 2 ^ (s + 1 + t)) : mid a r s t (2 ^ t) 0 q = stg a r (s + 1) t q := by
 unfold mid
 rw [if_pos]
 left
 rw [Nat.div_lt_iff_lt_mul (Nat.two_pow_pos _), ← Nat.pow_add, Nat.add_comm t]
 exact h
theorem mid_at (a : Nat → Fin (Pm f)) (r : Fin (Pm f)) (s t B i q : Nat) (h : i < 2 ^ s) (hq : q = B * 2 ^ (s + 1) + i ∨ q = B * 2 ^ (s + 1) + i + 2 ^ s) : mid a r s t B i q = stg a r s (t + 1) q ∧ mid a r s t B (i + 1) q = stg a r (s + 1) t q := by
 have hp : 2 ^ (s + 1) = 2 * 2 ^ s := by rw [Nat.pow_succ, Nat.mul_comm]
 have h1 : q / 2 ^ (s + 1) = B ∧ q % 2 ^ s = i := by
  rcases hq with rfl | rfl
  ·refine ⟨(div_blk (by rw [hp]; omega)).1, ?_⟩
   rw [hp, ← Nat.mul_assoc]
   exact (div_blk h).2
  ·refine ⟨by rw [Nat.add_assoc]; exact (div_blk (by rw [hp]; omega)).1, ?_⟩
   rw [hp, ← Nat.mul_assoc, show B * 2 * 2 ^ s + i + 2 ^ s = (B * 2 + 1) * 2 ^ s + i by rw [Nat.add_mul]; omega]
   exact (div_blk h).2
 unfold mid
 rw [h1.1, h1.2, if_neg (by omega), if_pos (by omega)]
 exact ⟨rfl, rfl⟩
theorem mid_other (a : Nat → Fin (Pm f)) (r : Fin (Pm f)) (s t B i q : Nat) (h : i < 2 ^ s) (h1 : q ≠ B * 2 ^ (s + 1) + i) (h2 : q ≠ B * 2 ^ (s + 1) + i + 2 ^ s) : mid a r s t B (i + 1) q = mid a r s t B i q := by
 have hp : 2 ^ (s + 1) = 2 * 2 ^ s := by rw [Nat.pow_succ, Nat.mul_comm]
 have key : ¬ (q / 2 ^ (s + 1) = B ∧ q % 2 ^ s = i) := by
  rintro ⟨e1, e2⟩
  have d1 := Nat.div_add_mod q (2 ^ (s + 1))
  have d2 : q % 2 ^ (s + 1) % 2 ^ s = q % 2 ^ s := Nat.mod_mod_of_dvd q (by rw [hp]; exact Nat.dvd_mul_left ..)
  have d3 : q % 2 ^ (s + 1) < 2 ^ (s + 1) := Nat.mod_lt _ (Nat.two_pow_pos _)
  rw [e1, Nat.mul_comm] at d1
  rw [e2] at d2
  by_cases hlt : q % 2 ^ (s + 1) < 2 ^ s
  ·rw [Nat.mod_eq_of_lt hlt] at d2
   exact h1 (by omega)
  ·rw [Nat.mod_eq_sub_mod (by omega), Nat.mod_eq_of_lt (by omega)] at d2
   exact h2 (by omega)
 unfold mid
 by_cases c : q / 2 ^ (s + 1) < B ∨ (q / 2 ^ (s + 1) = B ∧ q % 2 ^ s < i)
 ·rw [if_pos c, if_pos (by omega)]
 ·rw [if_neg c, if_neg (by omega)]

theorem ofF_set (n : Nat) (g h : Nat → Fin (Pm f)) (k : Nat) (v : Fin (Pm f)) (hk : h k = v) (ho : ∀ i, i < n → i ≠ k → h i = g i) : (ofF n g).set k v = ofF n h := by
 refine List.ext_getElem (by rw [List.length_set, ofF_length, ofF_length]) fun i h1 h2 => ?_
 rw [List.length_set, ofF_length] at h1
 rw [List.getElem_set]
 by_cases hi : k = i
 ·subst hi
  rw [if_pos rfl]
  simp [ofF, hk]
 ·rw [if_neg hi]
  simp only [ofF, List.getElem_map, List.getElem_range]
  exact (ho i h1 (Ne.symm hi)).symm
theorem mid_set (a : Nat → Fin (Pm f)) (r : Fin (Pm f)) (s t B i : Nat) (h : i < 2 ^ s) (hr : Rt r (s + 1 + t)) (x y : Fin (Pm f))
  (hx : x = stg a r s (t + 1) (B * 2 ^ (s + 1) + i)) (hy : y = stg a r s (t + 1) (B * 2 ^ (s + 1) + i + 2 ^ s) * kpow (kpow r (2 ^ t)) i) :
  ((ofF (2 ^ (s + 1 + t)) (mid a r s t B i)).set (B * 2 ^ (s + 1) + i) (x + y)).set (B * 2 ^ (s + 1) + i + 2 ^ s) (x - y) = ofF (2 ^ (s + 1 + t)) (mid a r s t B (i + 1)) := by
 obtain ⟨h1, h2⟩ := stg_step a r s t B i h hr
 have h0 := Nat.two_pow_pos s
 rw [ofF_set _ _ (fun q => if q = B * 2 ^ (s + 1) + i then x + y else mid a r s t B i q) _ _ (if_pos rfl) (fun q _ hq => if_neg hq)]
 refine ofF_set _ _ _ _ _ ?_ fun q _ hq => ?_
 ·rw [(mid_at a r s t B i _ h (.inr rfl)).2, h2, hx, hy]
 ·show _ = if _ then _ else _
  by_cases hq1 : q = B * 2 ^ (s + 1) + i
  ·rw [if_pos hq1, hq1, (mid_at a r s t B i _ h (.inl rfl)).2, h1, hx, hy]
  ·rw [if_neg hq1, mid_other a r s t B i q h hq1 hq]
theorem ofF_congr {n : Nat} {g h : Nat → Fin (Pm f)} (hh : ∀ i, i < n → g i = h i) : ofF n g = ofF n h := eq_ofF (ofF_length n g) fun i hi => by rw [ofF_getD, if_pos hi, hh i hi]

/-! ### values, and back -/
def vals (r : Fin (Pm f)) (n : Nat) (p : List (Fin (Pm f))) : List (Fin (Pm f)) := ofF n fun k => ev (kpow r k) p
theorem vals_sm (r : Fin (Pm f)) (L : Nat) (p : List (Fin (Pm f))) (h : p.length ≤ 2 ^ L) : vals r (2 ^ L) p = ofF (2 ^ L) fun q => sm (fun j => p.getD j 0 * kpow r (q * j)) (2 ^ L) :=
 ofF_congr fun k _ => by
  rw [ev_sm' _ p _ h]
  exact sm_congr fun j _ => by rw [kpow_mul]
def nn (f n : Nat) : Fin (Pm f) := sm (fun _ => 1) n
def coefs (s m : Fin (Pm f)) (n : Nat) (v : List (Fin (Pm f))) : List (Fin (Pm f)) := ofF n fun i => ev (kpow s i) v * m
theorem coefs_vals {r s m : Fin (Pm f)} {L : Nat} (hr : Rt r L) (hs : r * s = 1) (hm : nn f (2 ^ L) * m = 1) (p : List (Fin (Pm f))) (hp : p.length = 2 ^ L) : coefs s m (2 ^ L) (vals r (2 ^ L) p) = p := by
 refine (eq_ofF hp fun i hi => ?_).symm
 have h := round_trip hr hs (fun j => p.getD j 0) i hi
 rw [ev_sm, show (vals r (2 ^ L) p).length = 2 ^ L from ofF_length ..]
 rw [sm_congr (h := fun k => sm (fun j => p.getD j 0 * kpow r (k * j)) (2 ^ L) * kpow s (i * k)) (fun k hk => by
  rw [vals_sm r L p (by omega), ofF_getD, if_pos hk, kpow_mul s i k]), h]
 unfold nn at hm
 grind
end

end Go.Proofs.YtfbfbijkkbflkaaGreatDoor.Fm

namespace Go.Proofs.YtfbfbijkkbflkaaGreatDoor.Fm
set_option linter.unusedVariables false

section
variable {f : Nat}

theorem set_getD (p : List (Fin (Pm f))) (k : Nat) (v : Fin (Pm f)) (hk : k < p.length) (i : Nat) : (p.set k v).getD i 0 = if i = k then v else p.getD i 0 := by
 simp only [List.getD_eq_getElem?_getD, List.getElem?_set]
 by_cases h : i = k
 ·subst h
  rw [if_pos rfl, if_pos hk, if_pos rfl]
  rfl
 ·rw [if_neg (Ne.symm h), if_neg h]
/-! ### what goes into what -/
def Dv (d z : List (Fin (Pm f))) : Prop := ∃ u : List (Fin (Pm f)), u.length ≤ 100000 ∧ ∀ x, ev x z = ev x u * ev x d
theorem trim_zero {p : List (Fin (Pm f))} (hp : p.length ≤ 1000000) (h : ∀ x, ev x p = 0) : trim p = [] := by
 have h1 := trim_ev (p := p) (q := []) hp (by simp) (fun x => by rw [h, ev_nil])
 exact h1
theorem mul_short {w d z : List (Fin (Pm f))} (hw : w.length ≤ 400000) (hd : d.length ≤ 400000) (hz : z.length < d.length) (hd0 : trim d = d) (h : ∀ x, ev x z = ev x w * ev x d) : trim z = [] := by
 by_cases h0 : trim w = []
 ·refine trim_zero (by omega) fun x => ?_
  rw [h, ← ev_trim x w, h0, ev_nil]
  grind
 ·exfalso
  have hne : d ≠ [] := List.ne_nil_of_length_pos (by omega)
  have h1 := prodL_trim (p := trim w) (q := d) (trim_trim w) hd0 h0 hne
  have hl : (prodL (trim w) d).length = (trim w).length + d.length - 1 := ofF_length ..
  have hwl := trim_le w
  have hw1 : 0 < (trim w).length := List.length_pos_iff.2 h0
  have h2 := trim_ev (p := z) (q := prodL (trim w) d) (by omega) (by omega) (fun x => by rw [h, prodL_ev, ev_trim])
  rw [h1] at h2
  have h3 := trim_le z
  rw [h2, hl] at h3
  omega
theorem Dv.rest {d z t r : List (Fin (Pm f))} (h : Dv d z) (hd : d.length ≤ 100000) (hd0 : trim d = d) (ht : t.length ≤ 100000) (hr : r.length < d.length) (hr0 : trim r = r) (he : ∀ x, ev x z = ev x t * ev x d + ev x r) : r = [] := by
 obtain ⟨u, hu, hue⟩ := h
 rw [← hr0]
 have key : ∀ x, ev x r = ev x (padd u (pscale (-1) t)) * ev x d := fun x => by
  rw [ev_padd, ev_pscale]
  have h1 := he x
  rw [hue x] at h1
  grind
 refine mul_short (w := padd u (pscale (-1) t)) (d := d) ?_ (by omega) hr hd0 key
 have h1 : (padd u (pscale (-1) t)).length ≤ max u.length (pscale (-1) t).length := by
  unfold padd
  exact Nat.le_trans (trim_le _) (by rw [ofF_length]; exact Nat.le_refl _)
 have h2 : (pscale (-1) t).length ≤ t.length := Nat.le_trans (trim_le _) (by rw [List.length_map]; exact Nat.le_refl _)
 omega
theorem padd_le (p q : List (Fin (Pm f))) : (padd p q).length ≤ max p.length q.length := by
 unfold padd
 exact Nat.le_trans (trim_le _) (by rw [ofF_length]; exact Nat.le_refl _)
theorem pscale_le (c : Fin (Pm f)) (p : List (Fin (Pm f))) : (pscale c p).length ≤ p.length := Nat.le_trans (trim_le _) (by rw [List.length_map]; exact Nat.le_refl _)
theorem prodL_length (p q : List (Fin (Pm f))) : (prodL p q).length = p.length + q.length - 1 := ofF_length ..
theorem pmul_le (p q : List (Fin (Pm f))) : (pmul p q).length ≤ p.length + q.length - 1 := Nat.le_trans (trim_le _) (by rw [prodL_length]; exact Nat.le_refl _)
theorem Dv.refl (p : List (Fin (Pm f))) : Dv p p := ⟨[1], by simp, fun x => by rw [ev_cons, ev_nil]; grind⟩
theorem Dv.none (p : List (Fin (Pm f))) : Dv p [] := ⟨[], by simp, fun x => by rw [ev_nil]; grind⟩
theorem Dv.of {u d z : List (Fin (Pm f))} (hu : u.length ≤ 100000) (h : ∀ x, ev x z = ev x u * ev x d) : Dv d z := ⟨u, hu, h⟩
theorem Dv.into {d z e : List (Fin (Pm f))} (h : Dv d z) (c : Fin (Pm f)) (he : ∀ x, ev x e = ev x z * c) : Dv d e := by
 obtain ⟨u, hu, hue⟩ := h
 refine ⟨pscale c u, Nat.le_trans (pscale_le c u) hu, fun x => ?_⟩
 rw [ev_pscale, he, hue]
 grind

/-! ### Lagrange -/
theorem Rt.only {r x : Fin (Pm f)} {L : Nat} (h : Rt r L) (hL : L ≤ 60) (hx : kpow x (2 ^ L) = 1) : ∃ k, k < 2 ^ L ∧ x = kpow r k := by
 apply Classical.byContradiction
 intro hno
 have h2 : 2 ^ L ≤ 2 ^ 60 := Nat.pow_le_pow_right (by omega) hL
 have hroot : ∀ y, kpow y (2 ^ L) = 1 → ev y ((-1 : Fin (Pm f)) :: (List.replicate (2 ^ L - 1) 0 ++ [1])) = 0 := fun y hy => by
  rw [ev_cons, ev_append, ev_zeros, List.length_replicate, ev_cons, ev_nil]
  have h3 : kpow y (2 ^ L) = kpow y (2 ^ L - 1) * y := by rw [← kpow_succ]; congr 1; have := Nat.two_pow_pos L; omega
  grind
 have hz := zero_poly (2 ^ L + 1) ((-1 : Fin (Pm f)) :: (List.replicate (2 ^ L - 1) 0 ++ [1])) (by simp; have := Nat.two_pow_pos L; omega) (x :: (List.range (2 ^ L)).map fun k => kpow r k) (by
  rw [List.nodup_cons]
  constructor
  ·intro hm
   obtain ⟨k, hk, he⟩ := List.mem_map.1 hm
   exact hno ⟨k, List.mem_range.1 hk, he.symm⟩
  ·rw [List.Nodup, List.pairwise_map]
   exact List.Pairwise.imp_of_mem (fun {a b} ha hb hne e => hne (h.inj (List.mem_range.1 ha) (List.mem_range.1 hb) e)) List.nodup_range) (by simp) (fun y hy => by
  rcases List.mem_cons.1 hy with rfl | hy
  ·exact hroot _ hx
  ·obtain ⟨k, hk, rfl⟩ := List.mem_map.1 hy
   refine hroot _ ?_
   rw [← kpow_mul, Nat.mul_comm, kpow_mul, h.one, one_kpow]) 0
 rw [List.getD_cons_zero] at hz
 exact k_one_ne (f := f) (by grind)
end

end Go.Proofs.YtfbfbijkkbflkaaGreatDoor.Fm

namespace Go.Proofs.YtfbfbijkkbflkaaGreatDoor.Fm
set_option linter.unusedVariables false

def seven (f : Nat) : Fin (Pm f) := ⟨7, by unfold Pm; split <;> decide⟩
theorem seven_order (f : Nat) : kpow (seven f) (Pm f - 1) = 1 ∧ ∀ d, 0 < d → d < Pm f - 1 → kpow (seven f) d ≠ 1 := by
 by_cases h : f = 1
 ·subst h
  exact ⟨gen1.one, gen1.order⟩
 ·have e : Pm f = P2 := by unfold Pm; rw [if_neg h]
  have key : ∀ (q : Nat) [NeZero q] (hq : q = P2) (h7 : 7 < q), kpow (⟨7, h7⟩ : Fin q) (q - 1) = 1 ∧ ∀ d, 0 < d → d < q - 1 → kpow (⟨7, h7⟩ : Fin q) d ≠ 1 := by
   intro q _ hq
   subst hq
   exact fun _ => ⟨gen2.one, gen2.order⟩
  exact key _ e _
def rootK (f L : Nat) : Fin (Pm f) := kpow (seven f) ((Pm f - 1) / 2 ^ L)
theorem pm_div (f L : Nat) (hL : L ≤ 32) : (Pm f - 1) / 2 ^ L * 2 ^ L = Pm f - 1 := by
 have h32 : 2 ^ 32 ∣ Pm f - 1 := by unfold Pm; split <;> decide
 exact Nat.div_mul_cancel (Nat.dvd_trans (Nat.pow_dvd_pow 2 hL) h32)
theorem rt_root (f L : Nat) (hL : L ≤ 32) : Rt (rootK f L) L := by
 obtain ⟨h1, h2⟩ := seven_order f
 have hd := pm_div f L hL
 have hb := Pm_big f
 refine ⟨?_, fun d h3 h4 => ?_⟩
 ·unfold rootK
  rw [← kpow_mul, hd, h1]
 ·unfold rootK
  rw [← kpow_mul]
  have hq : 0 < (Pm f - 1) / 2 ^ L := by
   apply Nat.pos_of_ne_zero
   intro e
   rw [e] at hd
   omega
  refine h2 _ (Nat.mul_pos hq h3) ?_
  have h5 := Nat.mul_lt_mul_of_pos_left h4 hq
  omega
theorem root_sq_of (f L : Nat) (h : 2 ^ (L + 1) ∣ Pm f - 1) : rootK f (L + 1) * rootK f (L + 1) = rootK f L := by
 have h1 : (Pm f - 1) / 2 ^ (L + 1) * 2 ^ (L + 1) = Pm f - 1 := Nat.div_mul_cancel h
 have h2 : (Pm f - 1) / 2 ^ L * 2 ^ L = Pm f - 1 := Nat.div_mul_cancel (Nat.dvd_trans (Nat.pow_dvd_pow 2 (by omega)) h)
 unfold rootK
 rw [← kpow_add]
 congr 1
 refine Nat.eq_of_mul_eq_mul_right (Nat.two_pow_pos L) ?_
 rw [h2, ← Nat.two_mul, Nat.mul_comm 2, Nat.mul_assoc, Nat.mul_comm 2, ← Nat.pow_succ, h1]
theorem nn_val (f : Nat) : ∀ n, n < Pm f → (nn f n).val = n
 | 0, _ => rfl
 | n + 1, h => by
  have h1 := nn_val f n (by omega)
  have hb := Pm_big f
  show (nn f n + 1).val = n + 1
  have h2 : (1 : Fin (Pm f)).val = 1 % Pm f := rfl
  rw [Fin.val_add, h1, h2, Nat.mod_eq_of_lt (a := 1) (by omega), Nat.mod_eq_of_lt h]
theorem nn_ne (f n : Nat) (h0 : 0 < n) (h : n < Pm f) : nn f n ≠ 0 := by
 intro e
 have h1 := nn_val f n h
 rw [e] at h1
 have : (0 : Fin (Pm f)).val = 0 := rfl
 omega

section
variable {f : Nat}
abbrev valsK (L : Nat) (p : List (Fin (Pm f))) : List (Fin (Pm f)) := vals (rootK f L) (2 ^ L) p
abbrev coefsK (L : Nat) (v : List (Fin (Pm f))) : List (Fin (Pm f)) := coefs (kinv (rootK f L)) (kinv (nn f (2 ^ L))) (2 ^ L) v
theorem two_pow_lt {f L : Nat} (hL : L ≤ 32) : 2 ^ L < Pm f := Nat.lt_of_le_of_lt (Nat.pow_le_pow_right (by omega) hL) (by have := Pm_big f; omega)
theorem coefsK_vals {L : Nat} (hL : L ≤ 32) (p : List (Fin (Pm f))) (hp : p.length = 2 ^ L) : coefsK L (valsK L p) = p :=
 coefs_vals (rt_root f L hL) (mul_kinv _ (rt_root f L hL).ne_zero) (mul_kinv _ (nn_ne f _ (Nat.two_pow_pos L) (two_pow_lt hL))) p hp
theorem valsK_length (L : Nat) (p : List (Fin (Pm f))) : (valsK L p).length = 2 ^ L := ofF_length ..
theorem coefsK_length (L : Nat) (p : List (Fin (Pm f))) : (coefsK L p).length = 2 ^ L := ofF_length ..
theorem prod_vals {L : Nat} (hL : L ≤ 32) (p q : List (Fin (Pm f))) (h : p.length + q.length ≤ 2 ^ L + 1) :
  coefsK L (ofF (2 ^ L) fun k => (valsK L (p ++ List.replicate (2 ^ L - p.length) 0)).getD k 0 * (valsK L (q ++ List.replicate (2 ^ L - q.length) 0)).getD k 0) = prodL p q ++ List.replicate (2 ^ L - (prodL p q).length) 0 := by
 have hl : (prodL p q).length = p.length + q.length - 1 := ofF_length ..
 have hpos := Nat.two_pow_pos L
 rw [← coefsK_vals hL (prodL p q ++ List.replicate (2 ^ L - (prodL p q).length) 0) (by rw [List.length_append, List.length_replicate]; omega)]
 congr 1
 refine ofF_congr fun k hk => ?_
 show (vals _ _ _).getD k 0 * (vals _ _ _).getD k 0 = _
 unfold vals
 rw [ofF_getD, if_pos hk, ofF_getD, if_pos hk, ev_pad, ev_pad, ev_pad, prodL_ev]
end

end Go.Proofs.YtfbfbijkkbflkaaGreatDoor.Fm

namespace Go.Proofs.YtfbfbijkkbflkaaGreatDoor
open Go.RowKit Fm
set_option linter.unusedVariables false
set_option maxRecDepth 100000

section
variable {f : Nat}

def RwK (w : World) (g : Nat) (l : KL f) : Prop := Vs w g (cellsE (esK l))
theorem cellsE_len {l : KL f} : (cellsE (esK l)).length = l.length * 2 := by rw [length_cellsE, esK_length]
theorem RwK.call {w w' : World} {g : Nat} {l : KL f} (h : RwK w g l) (hb : Below w.heap.size w w') : RwK w' g l := Vs.call h hb
theorem RwK.alloc {w : World} {g : Nat} {l : KL f} (h : RwK w g l) (o : Obj) : RwK (w.alloc o) g l := Vs.alloc h o
theorem RwK.drew {w : World} {g : Nat} {l : KL f} (h : RwK w g l) : RwK w.drew g l := Vs.drew h
theorem RwK.far {w : World} {g : Nat} {l : KL f} (h : RwK w g l) {p : Addr} (hp : p.block ≠ g) (x : Value) : RwK (w.setCell p x) g l := Vs.far h hp x
theorem RwK.at {w : World} {g : Nat} {l : KL f} (h : RwK w g l) {i : Nat} {x : Fin (Pm f)} (hx : l[i]? = some x) :
  w.cell? ⟨g, i * 2, none⟩ = some (.int .u64 (lo x)) ∧ w.cell? ⟨g, i * 2 + 1, none⟩ = some (.int .u64 (hi x)) := by
 obtain ⟨h1, h2⟩ := cellsE_at (esK l) i _ (esK_at hx)
 exact ⟨h.cell _ _ h1, h.cell _ _ h2⟩
theorem RwK.frz {w : World} {g : Nat} {l : KL f} (h : RwK w g l) {i : Nat} (hi : i < l.length) : w.frozen? ⟨g, i * 2, none⟩ = false ∧ w.frozen? ⟨g, i * 2 + 1, none⟩ = false :=
 ⟨Vs.frz h _ (by rw [cellsE_len]; omega), Vs.frz h _ (by rw [cellsE_len]; omega)⟩
theorem esK_set (l : KL f) (i : Nat) (x : Fin (Pm f)) : esK (l.set i x) = (esK l).set i (lo x, hi x) := by
 unfold esK
 rw [List.map_set]
 rfl
theorem RwK.set {w : World} {g : Nat} {l : KL f} (h : RwK w g l) (i : Nat) (hi : i < l.length) (x : Fin (Pm f)) :
  RwK ((w.setCell ⟨g, i * 2, none⟩ (.int .u64 (lo x))).setCell ⟨g, i * 2 + 1, none⟩ (.int .u64 (Go.Proofs.YtfbfbijkkbflkaaGreatDoor.hi x))) g (l.set i x) := by
 have h2 := Vs.put (Vs.put h (i * 2) (by rw [cellsE_len]; omega) (.int .u64 (lo x))) (i * 2 + 1) (by rw [List.length_set, cellsE_len]; omega) (.int .u64 (Go.Proofs.YtfbfbijkkbflkaaGreatDoor.hi x))
 unfold RwK
 rw [esK_set, ← cellsE_set]
 exact h2
theorem RwK.row {w : World} {g : Nat} {l : KL f} (h : RwK w g l) : RowE w g 0 (esK l) := fun i e hi => by
 obtain ⟨h1, h2⟩ := cellsE_at (esK l) i e hi
 rw [Nat.zero_add]
 exact ⟨h.cell _ _ h1, h.cell _ _ h2⟩
theorem RwK.sl {w : World} {g n c : Nat} {l : KL f} (h : RwK w g l) (hl : l.length = n) (hc : n ≤ c) (hm : c ≤ 9223372036854775807) : SlK w w.heap.size (.slice (some ⟨g, 0, none⟩) n c) l := by
 subst hl
 exact ⟨_, c, rfl, hc, hm, fun _ => ⟨g, 0, rfl, h.lt, h.row⟩⟩
theorem BlkE.rw {w : World} {g : Nat} {l : KL f} (h : BlkE w g (esK l)) : RwK w g l :=
 ⟨fun i v hi => (h.cell i).trans hi, fun i _ => h.frozen i, h.lt⟩
theorem own_rw {w : World} {base g n c : Nat} {l : KL f} (h : w.ownsRow base 36 2 (.slice (some ⟨g, 0, none⟩) n c) n (cellsE (esK l))) : RwK w g l ∧ base ≤ g ∧ n ≤ c ∧ c ≤ 9223372036854775807 ∧ l.length = n := by
 have hl := h.1
 rw [cellsE_len] at hl
 rcases h.2 with ⟨hv, _⟩ | ⟨g', cap, cur, hv, hb, hg, hnc, hcm, hcs, ht⟩
 ·cases hv
 ·injection hv with e1 e2 e3
  injection e1 with e1
  injection e1 with e1
  subst e1
  subst e3
  refine ⟨⟨fun i v hi => ?_, fun i hi => ?_, ?_⟩, hb, hnc, hcm, by omega⟩
  ·rw [← ht] at hi
   have hlt : i < n * 2 := by
    obtain ⟨h1, _⟩ := List.getElem?_eq_some_iff.1 hi
    rw [List.length_take] at h1
    omega
   rw [List.getElem?_take_of_lt hlt] at hi
   simp [World.cell?, hg]
   simpa using hi
  ·simp [World.frozen?, hg]
  ·exact (Array.getElem?_eq_some_iff.1 hg).1
theorem own_cases {w : World} {base : Nat} {v : Value} {l : KL f} (h : w.ownsRow base 36 2 v l.length (cellsE (esK l))) :
  (v = .slice none 0 0 ∧ l = []) ∨ ∃ g c, v = .slice (some ⟨g, 0, none⟩) l.length c ∧ RwK w g l ∧ base ≤ g ∧ l.length ≤ c ∧ c ≤ 9223372036854775807 := by
 rcases h.2 with ⟨hv, hn⟩ | ⟨g, cap, cur, hv, _⟩
 ·exact .inl ⟨hv, List.length_eq_zero_iff.1 hn⟩
 ·subst hv
  obtain ⟨h1, h2, h3, h4, _⟩ := own_rw h
  exact .inr ⟨g, cap, rfl, h1, h2, h3, h4⟩

theorem V2.belowB {w w' : World} {B b : Nat} {u v : Value} (h : V2 w b u v) (hb : Below B w w') (hlt : b < B) : V2 w' b u v := ((Vs.of2 h).belowB hb hlt).to2
theorem RwK.belowB {w w' : World} {B g : Nat} {l : KL f} (h : RwK w g l) (hb : Below B w w') (hlt : g < B) : RwK w' g l := Vs.belowB h hb hlt
theorem own_st {w : World} {base b : Nat} {e : TypeId} {size : Nat} {v : Value} {n : Nat} {xs : List Value} (h : w.ownsRow base e size v n xs) (hb : b < base) (x y : Value) : ((w.setCell ⟨b, 0, none⟩ x).setCell ⟨b, 1, none⟩ y).ownsRow base e size v n xs :=
 ownsRow_setCell_below (ownsRow_setCell_below h hb _) hb _

theorem SlK.rowOf {w : World} {B n c : Nat} {A : Option Addr} {l : KL f} (h : SlK w B (.slice A n c) l) (hn : 0 < l.length) : ∃ b o, A = some ⟨b, o, none⟩ ∧ b < B ∧ RowE w b o (esK l) := by
 obtain ⟨A', c', e, _, _, h3⟩ := h
 injection e with e1 _ _
 subst e1
 exact h3 hn

def RetBlk (l : KL f) (w : World) (e : Ending) (w' : World) : Prop := ∃ g, e = .returned (.slice (some ⟨g, 0, none⟩) l.length l.length) ∧ RwK w' g l ∧ w.heap.size ≤ g ∧ Below w.heap.size w w'
def RetBlk0 (l : KL f) (w : World) (e : Ending) (w' : World) : Prop := ∃ g, e = .returned (.tuple #[.slice (some ⟨g, 0, none⟩) l.length l.length, .int .i64 0]) ∧ RwK w' g l ∧ w.heap.size ≤ g ∧ Below w.heap.size w w'
def RetOwn0 (l : KL f) (w : World) (e : Ending) (w' : World) : Prop :=
 ∃ v, e = .returned (.tuple #[v, .int .i64 0]) ∧ w'.ownsRow w.heap.size 36 2 v l.length (cellsE (esK l)) ∧ Below w.heap.size w w'

theorem kpw_fm (x : Fin (Pm f)) : ∀ n, kpw x n = Fm.kpow x n
 | 0 => rfl
 | n + 1 => by rw [kpw, Fm.kpow_succ, kpw_fm x n]
theorem kinv_fm (x : Fin (Pm f)) : kinv x = Fm.kinv x := by
 unfold kinv Fm.kinv
 rw [kpw_fm]
theorem nn_nK : ∀ n, nn f n = nK f n
 | 0 => (nK_zero f).symm
 | n + 1 => by
  rw [nK_add, nK_one, ← nn_nK n]
  rfl
end

end Go.Proofs.YtfbfbijkkbflkaaGreatDoor
