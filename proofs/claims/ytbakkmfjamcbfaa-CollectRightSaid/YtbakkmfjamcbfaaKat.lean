/-
 TaH: what the statements of this layer share.
-/
import Derived.BigQuiet
import Derived.Laws.Bits64b
import Derived.Test.YtbakkmfjamcbfaaKas
namespace Go.Proofs.Ytbakkmfjamcbfaa
open Go.RowKit Fm
set_option linter.unusedVariables false
set_option maxRecDepth 100000

theorem exc_sc {S : Nat → Prop} {B : Nat} {a w : World} {b : Nat} (h : Exc S B a w) (hb : S b ∨ B ≤ b) (i : Nat) (v : Value) : Exc S B a (w.setCell ⟨b, i, none⟩ v) :=
 h.trans ⟨rfl, rfl, rfl, by simp [World.setCell], fun k hk hn => Below.heap_setCell _ _ _ _ (fun e => by
  have e2 : k = b := e
  rcases hb with hb | hb
  ·exact hn (e2 ▸ hb)
  ·omega)⟩
section
variable {w w' : World} {b : Nat} {v : Value} {m : Int} {k : List Int}
theorem Vs.rep {id : List Int} (h : Vs w b (repL id v)) (hid : id.length = 16) : w.cell? ⟨b, 16, none⟩ = some v ∧ b < w.heap.size := by
 refine ⟨h.cell 16 v ?_, h.lt⟩
 unfold repL
 rw [List.getElem?_append_right (by rw [cells8_length]; omega), cells8_length, hid]
 rfl
theorem Vs.repI {id : List Int} (h : Vs w b (repL id v)) {i : Nat} (hi : i < id.length) : w.cell? ⟨b, 0 + i, none⟩ = some (.int .u8 (id.getD i 0)) := by
 rw [Nat.zero_add]
 refine h.cell i _ ?_
 unfold repL
 rw [List.getElem?_append_left (by rw [cells8_length]; exact hi)]
 refine cells8_at ?_
 rw [List.getD_eq_getElem?_getD, List.getElem?_eq_getElem hi]
 rfl
theorem Vs.totK (h : Vs w b (totL v m k)) {i : Nat} (hi : i < k.length) : w.cell? ⟨b, 2 + i, none⟩ = some (.int .u8 (k.getD i 0)) ∧ w.frozen? ⟨b, 2 + i, none⟩ = false := by
 have h0 : (totL v m k)[2 + i]? = some (.int .u8 (k.getD i 0)) := by
  rw [Nat.add_comm]
  show (cells8 k)[i]? = _
  refine cells8_at ?_
  rw [List.getD_eq_getElem?_getD, List.getElem?_eq_getElem hi]
  rfl
 exact ⟨h.cell _ _ h0, h.frz _ (List.getElem?_eq_some_iff.1 h0).1⟩
theorem Vs.totPutM (h : Vs w b (totL v m k)) (m' : Int) : Vs (w.setCell ⟨b, 1, none⟩ (.int .i64 m')) b (totL v m' k) := h.put 1 (Nat.succ_lt_succ (Nat.zero_lt_succ _)) (.int .i64 m')
theorem Vs.totPutK (h : Vs w b (totL v m k)) {i : Nat} (hi : i < k.length) (x : Int) : Vs (w.setCell ⟨b, 2 + i, none⟩ (.int .u8 x)) b (totL v m (k.set i x)) := by
 have hl : 2 + i < (totL v m k).length := by
  show 2 + i < (cells8 k).length + 1 + 1
  rw [cells8_length]
  omega
 have h2 := h.put (2 + i) hl (.int .u8 x)
 have h3 : (totL v m k).set (2 + i) (.int .u8 x) = totL v m (k.set i x) := by
  rw [Nat.add_comm]
  show v :: .int .i64 m :: (cells8 k).set i (.int .u8 x) = v :: .int .i64 m :: cells8 (k.set i x)
  unfold cells8
  rw [List.map_set]
 rwa [h3] at h2
end
theorem own_nilS (w : World) (base : Nat) : w.ownsRow base 73 1 (.slice none 0 0) 0 [] := ⟨rfl, .inl ⟨rfl, rfl⟩⟩
theorem own_blk_lt {w : World} {base : Nat} {e : TypeId} {size n : Nat} {v : Value} {xs : List Value} (h : w.ownsRow base e size v n xs) {g : Nat} (hg : v.ownBlock = some g) : g < w.heap.size := by
 rcases h.2 with ⟨hv, _⟩ | ⟨g', cap, cur, hv, hb, h3, _⟩
 ·rw [hv] at hg
  cases hg
 ·rw [hv] at hg
  have e1 : g' = g := Option.some.inj hg
  subst e1
  exact (Array.getElem?_eq_some_iff.1 h3).1
theorem own_slR {w : World} {base n : Nat} {v : Value} {vs : List Value} (h : w.ownsRow base 73 1 v n vs) : ∃ (A : Option Addr) (c : Nat), v = .slice A n c ∧ vs.length = n ∧ SlR w w.heap.size v 1 (vs.map fun v => [v]) := by
 rcases Nat.eq_zero_or_pos n with rfl | hn
 ·have hl : vs = [] := List.length_eq_zero_iff.1 (by have := h.1; omega)
  subst hl
  rcases h.2 with ⟨hv, _⟩ | ⟨g, cap, cur, hv, hb, hg, hnc, hcm, _⟩
  ·exact ⟨none, 0, hv, rfl, none, 0, hv, Nat.le_refl _, by simp, fun h => absurd h (by simp)⟩
  ·exact ⟨_, cap, hv, rfl, _, cap, hv, Nat.zero_le _, by unfold maxLen at hcm; omega, fun h => absurd h (by simp)⟩
 ·have hc : ∃ g c, v = .slice (some ⟨g, 0, none⟩) n c ∧ c ≤ 9223372036854775807 := by
   rcases h.2 with ⟨_, h0⟩ | ⟨g, cap, cur, hv, hb, hg, hnc, hcm, _⟩
   ·omega
   ·exact ⟨g, cap, hv, by unfold maxLen at hcm; omega⟩
  obtain ⟨g0, c0, hv0, hc0⟩ := hc
  obtain ⟨g, c, hv, hr, hb, hg, hl, hnc⟩ := own_rowS hn h
  rw [hv0] at hv
  injection hv with e1 e2 e3
  refine ⟨_, c0, hv0, hl, some ⟨g0, 0, none⟩, c0, by rw [List.length_map, hl]; exact hv0, by rw [List.length_map]; omega, hc0, fun _ => ⟨g0, 0, rfl, ?_, fun i r hi j u hj => ?_⟩⟩
  ·injection e1 with e1
   injection e1 with e1
   omega
  ·rw [List.getElem?_map] at hi
   cases hvi : vs[i]? with
   | none => rw [hvi] at hi; cases hi
   | some z =>
    rw [hvi] at hi
    injection hi with hi
    subst hi
    cases j with
    | zero =>
     injection hj with hj
     subst hj
     have h3 := hr i z hvi
     injection e1 with e1
     injection e1 with e1
     rw [e1, Nat.mul_one, Nat.add_zero]
     exact h3
    | succ j => simp at hj

theorem set_same {α : Type} {l : List α} {j : Nat} {x : α} (h : l[j]? = some x) : l.set j x = l := by
 apply List.ext_getElem?
 intro i
 by_cases e : j = i
 ·subst e
  rw [List.getElem?_set_self (List.getElem?_eq_some_iff.1 h).1, h]
 ·rw [List.getElem?_set_ne e]
theorem zK_at {f n j : Nat} (h : j < n) : (zK f n)[j]? = some 0 := by
 unfold zK
 rw [List.getElem?_replicate, if_pos h]

set_option maxHeartbeats 16000000 in
theorem law15_sum {f : Nat} (hf : IsF f) (k b l m c p : Int) (s : ByteArray) (n : Nat) (hn : n ≤ 1000000)
  (HO : ∀ wz, Calls Try.prog 32 #[.agg #[.int .u8 k, .int .u8 f, .int .i64 b, .int .i64 l, .int .i64 m, .int .i64 c]] wz (RetI n wz))
  (ids : List (List Int)) (us : List Value) (ess : List (List E)) (N : Nat) (hN : N ≤ 100) (hil : ids.length = N) (hul : us.length = N) (hesN : ess.length = N) (hid : ∀ x, x ∈ ids → x.length = 16 ∧ B8 x) (vl : Value) (w : World)
  (hus : ∀ (i : Nat) (u : Value) (es : List E), us[i]? = some u → ess[i]? = some es → SlE w w.heap.size u es) (hl : SlR w w.heap.size vl 17 (List.zipWith repL ids us)) :
  Calls Try.prog 25 #[.agg #[.int .u8 k, .int .u8 f, .int .i64 b, .int .i64 l, .int .i64 m, .int .i64 c, .int .i64 p, .string s], vl] w fun e w' =>
   ∃ (gS : Nat) (A : Option Addr) (ca : Nat) (vs : List Value), e = .returned (.tuple #[.agg (totL (.slice (some ⟨gS, 0, none⟩) n n) (N : Int) (chkF z16 ids)).toArray, .slice A N ca]) ∧ RwK w' gS (sumF (zK f n) (ess.map (outL f n))) ∧ w.heap.size ≤ gS ∧ vs.length = N ∧
    SlR w' w'.heap.size (.slice A N ca) 1 (vs.map fun v => [v]) ∧ PsK w' vs (ess.map (outL f n)) ∧ Below w.heap.size w w' := by
 have HOF : Hid (∀ (e : E) wz, okE e → Calls Try.prog 55 #[.int .i64 (f : Int), .agg #[.int .u64 e.1, .int .u64 e.2]] wz fun e' w' => e' = .returned (.agg #[.int .u64 (lo (kL f e.1 e.2)), .int .u64 (Go.Proofs.Ytbakkmfjamcbfaa.hi (kL f e.1 e.2))]) ∧ Below wz.heap.size wz w') := fun e wz h => ref_OfL hf e.1 e.2 wz h.1 h.2.1 h.2.2.1 h.2.2.2
 have HAD : Hid (∀ (x y : Fin (Pm f)) wz, Calls Try.prog 56 #[.int .i64 (f : Int), .agg #[.int .u64 (lo x), .int .u64 (hi x)], .agg #[.int .u64 (lo y), .int .u64 (hi y)]] wz fun e w' => e = .returned (.agg #[.int .u64 (lo (x + y)), .int .u64 (Go.Proofs.Ytbakkmfjamcbfaa.hi (x + y))]) ∧ Below wz.heap.size wz w') := fun x y wz => ref_AddK hf x y wz
 have HROW : Hid (∀ (i : Nat), i < N → ∃ id u es, ids[i]? = some id ∧ us[i]? = some u ∧ (ess.map (outL f n))[i]? = some (outL f n es) ∧ id.length = 16 ∧ B8 id ∧ (List.zipWith repL ids us)[i]? = some (repL id u) ∧ SlE w w.heap.size u es) := fun i h => by
  have e1 : ids[i]? = some (ids[i]'(by omega)) := List.getElem?_eq_getElem _
  have e2 : us[i]? = some (us[i]'(by omega)) := List.getElem?_eq_getElem _
  have e3 : ess[i]? = some (ess[i]'(by omega)) := List.getElem?_eq_getElem _
  obtain ⟨h1, h2⟩ := hid _ (List.getElem_mem (by omega : i < ids.length))
  refine ⟨_, _, _, e1, e2, by rw [List.getElem?_map, e3]; rfl, h1, h2, ?_, hus i _ _ e2 e3⟩
  rw [List.getElem?_zipWith, e1, e2]
 have HPL : Hid ((ess.map (outL f n)).length = N ∧ ∀ q, q ∈ ess.map (outL f n) → q.length = n) := ⟨by rw [List.length_map, hesN], fun q hq => by
  obtain ⟨es, _, rfl⟩ := List.mem_map.1 hq
  exact outL_length f n es⟩
 obtain ⟨ps, hps⟩ : ∃ ps, ess.map (outL f n) = ps := ⟨_, rfl⟩
 rw [hps] at HROW HPL
 rw [hps]
 have HCL : Hid (∀ i, (chkF z16 (ids.take i)).length = 16) := fun i => chkF_length z16_length _
 have HSL : Hid (∀ i, (sumF (zK f n) (ps.take i)).length = n) := fun i => sumF_len (zK_length f n) _ fun q hq => HPL.out.2 q (List.mem_of_mem_take hq)
 have HC0 : Hid (chkF z16 (ids.take N) = chkF z16 ids ∧ sumF (zK f n) (ps.take N) = sumF (zK f n) ps ∧ ps.take N = ps) := ⟨by rw [List.take_of_length_le (by omega)], by rw [List.take_of_length_le (by rw [HPL.out.1]; exact Nat.le_refl _)], by rw [List.take_of_length_le (by rw [HPL.out.1]; exact Nat.le_refl _)]⟩
 have HST : Hid (∀ i id p, ids[i]? = some id → ps[i]? = some p → chkF z16 (ids.take (i + 1)) = xorL (chkF z16 (ids.take i)) (hashF 7 id) ∧ sumF (zK f n) (ps.take (i + 1)) = addL (sumF (zK f n) (ps.take i)) p ∧ ps.take (i + 1) = ps.take i ++ [p]) := fun i id p h1 h2 => ⟨chkF_step h1, sumF_step h2, by rw [List.take_add_one, h2]; rfl⟩
 have HH : Hid (∀ (k : List Int) (b cc : Nat) (wz : World), k.length = 16 → B8 k → (∀ i, i < k.length → wz.cell? ⟨b, 0 + i, none⟩ = some (.int .u8 (k.getD i 0))) → b < wz.heap.size →
   Calls Try.prog 57 #[.int .u8 7, .slice (some ⟨b, 0, none⟩) 16 cc, .int .i64 16] wz fun e w' => ∃ g cp, e = .returned (.slice (some ⟨g, 0, none⟩) 16 cp) ∧ w'.ownsRow wz.heap.size 5 1 (.slice (some ⟨g, 0, none⟩) 16 cp) 16 (cells8 (hashF 7 k)) ∧ Below wz.heap.size wz w') := fun k b cc wz hk hk8 h1 h2 => by
  have h := keccak_Hash 7 (by omega) k (fun i hi => hk8 _ (by rw [List.getD_eq_getElem?_getD, List.getElem?_eq_getElem hi]; exact List.getElem_mem hi)) (by omega) b 0 cc wz h1 h2
  rw [hk] at h
  exact h
 have hzl : (List.zipWith repL ids us).length = N := by rw [List.length_zipWith, hil, hul, Nat.min_self]
 obtain ⟨A, ca, hA0, hca, hcam, hA⟩ := hl
 rw [hzl] at hA0 hca hA
 subst hA0
 have HA := Lib.hid hA
 have HO := Lib.hid HO
 have hFb0 : (1 : Int) ≤ (f : Int) := by rcases hf.or with rfl | rfl <;> omega
 have hFb1 : (f : Int) ≤ 2 := by rcases hf.or with rfl | rfl <;> omega
 have hwF : IntKind.i64.wrap (f : Int) = (f : Int) := IntWalk.i64_in _ (by omega)
 have HZ : Hid (esK (zK f n) = List.replicate n (0, 0)) := by
  show _ = _
  unfold esK zK
  rw [List.map_replicate, eK_zero]
 have HX : ∀ a b : Int, bits BinOp.xor IntKind.u8 a b = X8 a b := fun _ _ => rfl
 have hmk := make_elem n (by omega)
 clear hps hil hul hesN hid hus hzl hA hf
 rw [← HC0.out.1, ← HC0.out.2.1]
 generalize (f : Int) = F at *
 go_enter Try.func25, Try.ntmps25
 go_upto_region 1 with fail
 have hT := (Vs.new w [.int .u8 k, .int .u8 F, .int .i64 b, .int .i64 l, .int .i64 m, .int .i64 c, .int .i64 p, .string s] #[.int .u8 k, .int .u8 F, .int .i64 b, .int .i64 l, .int .i64 m, .int .i64 c, .int .i64 p, .string s] 62 rfl).alloc (.cells #[.slice none 0 0, .int .i64 0, .int .u8 0, .int .u8 0, .int .u8 0, .int .u8 0, .int .u8 0, .int .u8 0, .int .u8 0, .int .u8 0, .int .u8 0, .int .u8 0, .int .u8 0, .int .u8 0, .int .u8 0, .int .u8 0, .int .u8 0, .int .u8 0] 76)
 have hr := Vs.new (w.alloc (.cells #[.int .u8 k, .int .u8 F, .int .i64 b, .int .i64 l, .int .i64 m, .int .i64 c, .int .i64 p, .string s] 62)) (totL (.slice none 0 0) 0 z16) (#[.slice none 0 0, .int .i64 0, .int .u8 0, .int .u8 0, .int .u8 0, .int .u8 0, .int .u8 0, .int .u8 0, .int .u8 0, .int .u8 0, .int .u8 0, .int .u8 0, .int .u8 0, .int .u8 0, .int .u8 0, .int .u8 0, .int .u8 0, .int .u8 0]) 76 rfl
 simp only [World.size_alloc] at hr
 have hb00 : Below w.heap.size w ((w.alloc (.cells #[.int .u8 k, .int .u8 F, .int .i64 b, .int .i64 l, .int .i64 m, .int .i64 c, .int .i64 p, .string s] 62)).alloc (.cells #[.slice none 0 0, .int .i64 0, .int .u8 0, .int .u8 0, .int .u8 0, .int .u8 0, .int .u8 0, .int .u8 0, .int .u8 0, .int .u8 0, .int .u8 0, .int .u8 0, .int .u8 0, .int .u8 0, .int .u8 0, .int .u8 0, .int .u8 0, .int .u8 0] 76)) := by repeat (first | exact bA | with_reducible assumption | apply bB)
 have hszn : w.heap.size + 2 ≤ ((w.alloc (.cells #[.int .u8 k, .int .u8 F, .int .i64 b, .int .i64 l, .int .i64 m, .int .i64 c, .int .i64 p, .string s] 62)).alloc (.cells #[.slice none 0 0, .int .i64 0, .int .u8 0, .int .u8 0, .int .u8 0, .int .u8 0, .int .u8 0, .int .u8 0, .int .u8 0, .int .u8 0, .int .u8 0, .int .u8 0, .int .u8 0, .int .u8 0, .int .u8 0, .int .u8 0, .int .u8 0, .int .u8 0] 76)).heap.size := by simp only [World.size_alloc]; omega
 generalize ((w.alloc (.cells #[.int .u8 k, .int .u8 F, .int .i64 b, .int .i64 l, .int .i64 m, .int .i64 c, .int .i64 p, .string s] 62)).alloc (.cells #[.slice none 0 0, .int .i64 0, .int .u8 0, .int .u8 0, .int .u8 0, .int .u8 0, .int .u8 0, .int .u8 0, .int .u8 0, .int .u8 0, .int .u8 0, .int .u8 0, .int .u8 0, .int .u8 0, .int .u8 0, .int .u8 0, .int .u8 0, .int .u8 0] 76)) = w1 at hT hr hb00 hszn ⊢
 obtain ⟨⟨T0, T1, T2, T3, T4, T5, T6, T7⟩, ⟨T8, T9, T10, T11, T12, T13, T14, T15⟩, T16⟩ := hT.get8
 go_upto_region 2 with fail
 refine wp_region_lit ?_
 refine wpList_valD (some 19) rfl rfl (by (go_simp; first | with_reducible rfl | exact ⟨rfl, rfl⟩ | (trace_state; fail))) ?_
 simp only [Zp, Zq, Zr, Zs]
 refine wpList_valD (some 20) rfl rfl (by (go_simp; first | with_reducible rfl | exact ⟨rfl, rfl⟩ | (trace_state; fail))) ?_
 simp only [Zp, Zq, Zr, Zs]
 refine wpList_callD (some 21) rfl rfl 32 _ ?_ (HO.out _) ?_
 ·go_simp; try (with_reducible rfl)
 rintro e w2 ⟨rfl, hb2⟩
 refine ⟨_, rfl, ?_⟩
 simp only [Zp, Zq, Zr, Zs]
 clear T0 T1 T2 T3 T4 T5 T6 T7 T8 T9 T10 T11 T12 T13 T14 T15 T16
 replace hb00 := bl_call hb00 (Nat.le_refl _) hb2
 replace hT := hT.call hb2
 replace hr := hr.call hb2
 refine wpList_valD (some 22) rfl rfl (by (skip; go_simp; first | with_reducible rfl | exact ⟨rfl, rfl⟩ | (trace_state; fail))) ?_
 simp only [Zp, Zq, Zr, Zs]
 have hbA := (Below.refl w2.heap.size w2).alloc (Nat.le_refl _) (.cells (cellsE (List.replicate n (0, 0))).toArray 99)
 have hS9 := BlkE.new w2 (List.replicate n (0, 0)) _ rfl
 have hgw := hb00.size
 have hrg := hr.lt
 replace hb00 := bl_call hb00 (Nat.le_refl _) hbA
 replace hT := hT.call hbA
 replace hr := hr.call hbA
 generalize w2.alloc (.cells (cellsE (List.replicate n (0, 0))).toArray 99) = w3 at hS9 hb00 hr hT ⊢
 obtain ⟨gS, hgS⟩ : ∃ z, w2.heap.size = z := ⟨_, rfl⟩
 rw [hgS] at hS9 hgw hrg
 simp only [hgS]
 clear hgS hbA hb2
 refine wpList_valD (some 23) rfl rfl (exec_build rfl (by kernel_rfl) (build_total1 (some ⟨gS, 0, none⟩) n n _)) ?_
 simp only [Zp, Zq, Zr, Zs]
 refine wpList_valD (some 7) rfl rfl (by (skip; go_simp; first | with_reducible rfl | exact ⟨rfl, rfl⟩ | (trace_state; fail))) ?_
 simp only [Zp, Zq, Zr, Zs]
 have hX := Vs.new w3 (totL (.slice none 0 0) 0 z16) #[.slice none 0 0, .int .i64 0, .int .u8 0, .int .u8 0, .int .u8 0, .int .u8 0, .int .u8 0, .int .u8 0, .int .u8 0, .int .u8 0, .int .u8 0, .int .u8 0, .int .u8 0, .int .u8 0, .int .u8 0, .int .u8 0, .int .u8 0, .int .u8 0] 76 rfl
 have hbA := (Below.refl w3.heap.size w3).alloc (Nat.le_refl _) (.cells #[.slice none 0 0, .int .i64 0, .int .u8 0, .int .u8 0, .int .u8 0, .int .u8 0, .int .u8 0, .int .u8 0, .int .u8 0, .int .u8 0, .int .u8 0, .int .u8 0, .int .u8 0, .int .u8 0, .int .u8 0, .int .u8 0, .int .u8 0, .int .u8 0] 76)
 have hst := hX.storeT (k := z16) (v := .slice (some ⟨gS, 0, none⟩) n n) (m := 0) z16_length z16_length rfl
 refine wpList_skipD rfl rfl (exec_store rfl (by kernel_rfl) (by kernel_rfl) hst) ?_
 replace hX := hX.setT (k := z16) (v := .slice (some ⟨gS, 0, none⟩) n n) (m := 0) z16_length z16_length
 have hbC := bl_setCells hbA (Nat.le_refl _) 0 (totL (.slice (some ⟨gS, 0, none⟩) n n) 0 z16)
 rw [← HZ.out] at hS9
 have hS := hS9.rw
 have hgx := hS9.lt
 have hrx := hr.lt
 clear hS9
 replace hb00 := bl_call hb00 (Nat.le_refl _) hbC
 replace hT := hT.call hbC
 replace hr := hr.call hbC
 replace hS := hS.call hbC
 clear hst hbA hbC
 generalize (w3.alloc (.cells #[.slice none 0 0, .int .i64 0, .int .u8 0, .int .u8 0, .int .u8 0, .int .u8 0, .int .u8 0, .int .u8 0, .int .u8 0, .int .u8 0, .int .u8 0, .int .u8 0, .int .u8 0, .int .u8 0, .int .u8 0, .int .u8 0, .int .u8 0, .int .u8 0] 76)).setCells w3.heap.size 0 (totL (.slice (some ⟨gS, 0, none⟩) n n) 0 z16) = w4 at hX hS hr hT hb00 ⊢
 obtain ⟨xb, hxb⟩ : ∃ z, w3.heap.size = z := ⟨_, rfl⟩
 rw [hxb] at hX hgx hrx
 simp only [hxb]
 have HGX : Hid (gS < xb ∧ w.heap.size + 1 < xb ∧ w.heap.size ≤ gS ∧ w.heap.size + 1 < gS) := ⟨hgx, hrx, hgw, hrg⟩
 clear hxb hgx hrx hgw hrg
 go_upto_region 3 with fail
 go_wp2_with fail
 go_loopw [8, 26] (fun v8 v26 wr => ∃ (i : Nat) (vs : List Value) (u8 : Value), i ≤ N ∧ v26 = .int .i64 i ∧ v8 = u8 ∧ wr.ownsRow w.heap.size 73 1 u8 i vs ∧ (∀ q, u8.ownBlock = some q → xb < q) ∧ PsX (fun q => u8.ownBlock = some q ∨ q ≤ xb) wr vs (ps.take i) ∧ Vs wr xb (totL (.slice (some ⟨gS, 0, none⟩) n n) (i : Int) (chkF z16 (ids.take i))) ∧ RwK wr gS (sumF (zK f n) (ps.take i)) ∧
  Vs wr w.heap.size [.int .u8 k, .int .u8 F, .int .i64 b, .int .i64 l, .int .i64 m, .int .i64 c, .int .i64 p, .string s] ∧ Vs wr (w.heap.size + 1) (totL (.slice none 0 0) 0 z16) ∧ Below w.heap.size w wr) (fun _ v26 _ => N - (intOf v26).toNat)
 case atStart => exact ⟨0, [], _, by omega, rfl, rfl, own_nilS _ _, fun q e => (by cases e), PsX.nil _ _, hX, hS, hT, hr, hb00⟩
 case round =>
  clear hX hS hT hr hb00
  obtain ⟨i, vs, u8, hin, rfl, rfl, hown, hob, hps, hX, hS, hT, hr, hb00⟩ := hrel
  obtain ⟨wo, hwo⟩ : ∃ z : World, z = wr := ⟨wr, rfl⟩
  subst hwo
  by_cases hlt : i < N
  ·obtain ⟨id, u, es, e1, e2, e3, hid16, hid8, hr1, hsl⟩ := HROW.out i hlt
   obtain ⟨b1, o1, hAe, hb1, hrw1⟩ := HA.out (by omega)
   subst hAe
   obtain ⟨h1, h2, h3⟩ := HST.out i id _ e1 e3
   have hzl := HCL.out i
   have hsn := HSL.out i
   obtain ⟨⟨Au, cu, hu0, hcu, hcum, hAu⟩, hoku⟩ := hsl
   subst hu0
   have hrep := load_rep (w := wo) (b := b1) (o := o1) (i := i) hid16 (fun j u h => (hb00.cell (p := ⟨b1, o1 + i * 17 + j, none⟩) hb1).trans (hrw1 i _ hr1 j u h))
   have HU1 : Hid ((Value.slice Au es.length cu).oneCell' = true) := rfl
   have HAU := Lib.hid hAu
   have HOKU := Lib.hid hoku
   clear e1 e2 e3 hr1 hrw1 hAu hoku
   have hol := outL_length f n es
   have HOA : Hid (∀ j, j < n → (es.length = 0 → (outL f n es)[j]? = some 0) ∧ (∀ q e, 0 < es.length → j % es.length = q → es[q]? = some e → (outL f n es)[j]? = some (kL f e.1 e.2))) := fun j hj => ⟨outL_none hj, fun q e h1 h2 h3 => outL_some hj h1 h2 h3⟩
   generalize outL f n es = o9 at hol HOA h2 h3
   generalize chkF z16 (ids.take i) = K at hX hzl h1
   generalize sumF (zK f n) (ps.take i) = S at hS hsn h2
   have H1 := Lib.hid h1
   have H2 := Lib.hid h2
   have H3 := Lib.hid h3
   clear h1 h2 h3
   have HKL := Lib.hid hzl
   have HSN := Lib.hid hsn
   have HID := Lib.hid hid16
   have HI8 := Lib.hid hid8
   have HOL := Lib.hid hol
   have hE := exc_of (S := fun q => q ≤ xb) (Below.refl wo.heap.size wo)
   clear hzl hsn hid16 hid8 hol
   have hi1 : (i : Int) < (N : Int) := by omega
   go_upto_region 6 with fail
   refine wp_region_lit ?_
   refine wpList_valD (some 28) rfl rfl (by (go_simp; first | with_reducible rfl | exact ⟨rfl, rfl⟩ | (trace_state; fail))) ?_
   simp only [Zp, Zq, Zr, Zs]
   refine wpList_valD (some 29) rfl rfl (exec_load rfl (by kernel_rfl) hrep) ?_
   simp only [Zp, Zq, Zr, Zs]
   refine wpList_valD (some 10) rfl rfl (by (skip; go_simp; first | with_reducible rfl | exact ⟨rfl, rfl⟩ | (trace_state; fail))) ?_
   simp only [Zp, Zq, Zr, Zs]
   have hR := Vs.new wo (repL z16 (.slice none 0 0)) #[.int .u8 0, .int .u8 0, .int .u8 0, .int .u8 0, .int .u8 0, .int .u8 0, .int .u8 0, .int .u8 0, .int .u8 0, .int .u8 0, .int .u8 0, .int .u8 0, .int .u8 0, .int .u8 0, .int .u8 0, .int .u8 0, .slice none 0 0] 91 rfl
   have hbA := (Below.refl wo.heap.size wo).alloc (Nat.le_refl _) (.cells #[.int .u8 0, .int .u8 0, .int .u8 0, .int .u8 0, .int .u8 0, .int .u8 0, .int .u8 0, .int .u8 0, .int .u8 0, .int .u8 0, .int .u8 0, .int .u8 0, .int .u8 0, .int .u8 0, .int .u8 0, .int .u8 0, .slice none 0 0] 91)
   have hst := hR.storeR (id := id) (v := .slice Au es.length cu) z16_length HID.out HU1.out
   refine wpList_skipD rfl rfl (exec_store rfl (by kernel_rfl) (by kernel_rfl) hst) ?_
   replace hR := hR.setR (id := id) (v := .slice Au es.length cu) z16_length HID.out
   have hbC := bl_setCells hbA (Nat.le_refl _) 0 (repL id (.slice Au es.length cu))
   have HB0 := Lib.hid hb00
   have hxwr := hX.lt
   replace hb00 := bl_call hb00 (Nat.le_refl _) hbC
   replace hX := hX.call hbC
   replace hT := hT.call hbC
   replace hr := hr.call hbC
   replace hS := hS.call hbC
   replace hE := hE.call hbC
   generalize (wo.alloc (.cells #[.int .u8 0, .int .u8 0, .int .u8 0, .int .u8 0, .int .u8 0, .int .u8 0, .int .u8 0, .int .u8 0, .int .u8 0, .int .u8 0, .int .u8 0, .int .u8 0, .int .u8 0, .int .u8 0, .int .u8 0, .int .u8 0, .slice none 0 0] 91)).setCells wo.heap.size 0 (repL id (.slice Au es.length cu)) = w5 at hR hX hT hr hb00 hS hE ⊢
   obtain ⟨rb, hrb⟩ : ∃ z, wo.heap.size = z := ⟨_, rfl⟩
   have HRB := Lib.hid hrb
   have HXW : Hid (xb < wo.heap.size ∧ w.heap.size ≤ wo.heap.size) := ⟨hxwr, HB0.out.size⟩
   rw [hrb] at hR
   simp only [hrb]
   clear hst hbA hrep hbC hrb HB0
   obtain ⟨⟨T0, T1, T2, T3, T4, T5, T6, T7⟩, ⟨T8, T9, T10, T11, T12, T13, T14, T15⟩, T16⟩ := hT.get8
   go_upto_region 7 with fail
   refine wp_region_lit ?_
   refine wpList_valD (some 30) rfl rfl (by (go_simp; first | with_reducible rfl | exact ⟨rfl, rfl⟩ | (trace_state; fail))) ?_
   simp only [Zp, Zq, Zr, Zs]
   refine wpList_valD (some 31) rfl rfl (by (go_simp; first | with_reducible rfl | exact ⟨rfl, rfl⟩ | (trace_state; fail))) ?_
   simp only [Zp, Zq, Zr, Zs]
   refine wpList_callD (some 32) rfl rfl 32 _ ?_ (HO.out _) ?_
   ·go_simp; try (with_reducible rfl)
   rintro e w6 ⟨rfl, hb6⟩
   refine ⟨_, rfl, ?_⟩
   simp only [Zp, Zq, Zr, Zs]
   clear T0 T1 T2 T3 T4 T5 T6 T7 T8 T9 T10 T11 T12 T13 T14 T15 T16
   replace hb00 := bl_call hb00 (Nat.le_refl _) hb6
   replace hX := hX.call hb6
   replace hT := hT.call hb6
   replace hr := hr.call hb6
   replace hS := hS.call hb6
   replace hE := hE.call hb6
   replace hR := hR.call hb6
   refine wpList_valD (some 33) rfl rfl (by (skip; go_simp; first | with_reducible rfl | exact ⟨rfl, rfl⟩ | (trace_state; fail))) ?_
   simp only [Zp, Zq, Zr, Zs]
   have hbA := (Below.refl w6.heap.size w6).alloc (Nat.le_refl _) (.cells (cellsE (List.replicate n (0, 0))).toArray 99)
   have hO9 := BlkE.new w6 (List.replicate n (0, 0)) _ rfl
   have hrl := hR.lt
   have hes := hE.size
   replace hb00 := bl_call hb00 (Nat.le_refl _) hbA
   replace hX := hX.call hbA
   replace hT := hT.call hbA
   replace hr := hr.call hbA
   replace hS := hS.call hbA
   replace hE := hE.call hbA
   replace hR := hR.call hbA
   generalize w6.alloc (.cells (cellsE (List.replicate n (0, 0))).toArray 99) = w7 at hO9 hb00 hr hT hX hS hE hR ⊢
   obtain ⟨go, hgo⟩ : ∃ z, w6.heap.size = z := ⟨_, rfl⟩
   rw [hgo] at hO9 hrl hes
   simp only [hgo]
   clear hgo hbA hb6
   refine wpList_valD (some 11) rfl rfl (by (go_simp; first | with_reducible rfl | exact ⟨rfl, rfl⟩ | (trace_state; fail))) ?_
   simp only [Zp, Zq, Zr, Zs]
   rw [← HZ.out] at hO9
   have hO := hO9.rw
   clear hO9
   have HGO : Hid (xb < go ∧ rb < go ∧ wo.heap.size ≤ go) := by
    have h := HRB.out
    exact ⟨by omega, hrl, hes⟩
   clear hrl hes hxwr
   have hSp : RwK w7 gS ((addL S o9).take 0 ++ S.drop 0) := hS
   have hOp : RwK w7 go (o9.take 0 ++ (zK f n).drop 0) := hO
   have HSA : Hid ((addL S o9).length = S.length) := by rw [addL_len HSN.out HOL.out]; exact HSN.out.symm
   have HOZ : Hid (o9.length = (zK f n).length) := by rw [zK_length]; exact HOL.out
   clear hS hO
   go_wp2_with fail
   go_loopw [36] (fun v36 wq => ∃ j : Nat, j ≤ n ∧ v36 = .int .i64 j ∧ RwK wq gS ((addL S o9).take j ++ S.drop j) ∧ RwK wq go (o9.take j ++ (zK f n).drop j) ∧ Vs wq xb (totL (.slice (some ⟨gS, 0, none⟩) n n) (i : Int) K) ∧ Vs wq rb (repL id (.slice Au es.length cu)) ∧
    Vs wq w.heap.size [.int .u8 k, .int .u8 F, .int .i64 b, .int .i64 l, .int .i64 m, .int .i64 c, .int .i64 p, .string s] ∧ Vs wq (w.heap.size + 1) (totL (.slice none 0 0) 0 z16) ∧ Exc (fun q => q ≤ xb) wo.heap.size wo wq ∧ Below w.heap.size w wq) (fun v36 _ => n - (intOf v36).toNat)
   case atStart => exact ⟨0, Nat.zero_le _, rfl, hSp, hOp, hX, hR, hT, hr, hE, hb00⟩
   case round =>
    clear hSp hOp hX hR hT hr hE hb00
    obtain ⟨j, hjn, rfl, hS, hO, hX, hR, hT, hr, hE, hb00⟩ := hrel
    obtain ⟨wq, hwq⟩ : ∃ z : World, z = wr := ⟨wr, rfl⟩
    subst hwq
    by_cases hjl : j < n
    ·obtain ⟨s9, hs9⟩ : ∃ s, S[j]? = some s := ⟨_, List.getElem?_eq_getElem (by rw [HSN.out]; exact hjl)⟩
     have HS9 := Lib.hid hs9
     clear hs9
     have hj1 : (j : Int) < (n : Int) := by omega
     have HJL := Lib.hid hjl
     have HJO : Hid (j < (o9.take j ++ (zK f n).drop j).length) := by
      show _ < _
      rw [part_length HOZ.out, zK_length]
      exact hjl
     have HJS : Hid (j < ((addL S o9).take j ++ S.drop j).length) := by
      show _ < _
      rw [part_length HSA.out, HSN.out]
      exact hjl
     obtain ⟨r0, r1⟩ := hR.rep HID.out
     by_cases hes : es.length = 0
     ·have HOY := Lib.hid ((HOA.out j hjl).1 hes)
      have hes0 : ¬ 0 < es.length := by omega
      have HOJ0 : Hid ((o9.take j ++ (zK f n).drop j)[j]? = some 0) := by
       show _ = _
       rw [part_at HOZ.out (by rw [zK_length]; exact hjl)]
       exact zK_at hjl
      have hO2 := hO
      rw [← set_same HOJ0.out, part_set HOZ.out HOY.out] at hO2
      clear hO
      have hO := hO2
      clear hO2 hes
      obtain ⟨y9, hy9⟩ : ∃ y : Fin (Pm f), y = 0 := ⟨0, rfl⟩
      rw [← hy9] at HOY
      have HOJ : Hid ((o9.take (j + 1) ++ (zK f n).drop (j + 1))[j]? = some y9) := by
       show _ = _
       rw [List.getElem?_append_left (by rw [List.length_take, HOL.out]; omega), List.getElem?_take_of_lt (by omega)]
       exact HOY.out
      clear hy9
      go_upto_region 13 with fail
      clear r0 r1
      obtain ⟨x0, x1, x2, x3, x4⟩ := hX.tot
      obtain ⟨s0, s1⟩ := hS.at (i := j) (x := s9) (by rw [part_at HSA.out (by rw [HSN.out]; exact HJL.out)]; exact HS9.out)
      obtain ⟨o0, o1⟩ := hO.at (i := j) (x := y9) HOJ.out
      have hsl := Vs.lt hS
      have hol := Vs.lt hO
      have HAJ : Hid (∀ wz, Calls Try.prog 56 #[.int .i64 F, .agg #[.int .u64 (lo s9), .int .u64 (hi s9)], .agg #[.int .u64 (lo y9), .int .u64 (hi y9)]] wz fun e w' => e = .returned (.agg #[.int .u64 (lo (s9 + y9)), .int .u64 (Go.Proofs.Ytbakkmfjamcbfaa.hi (s9 + y9))]) ∧ Below wz.heap.size wz w') := HAD.out s9 y9
      have HSJ : Hid ((addL S o9)[j]? = some (s9 + y9)) := addL_at HS9.out HOY.out
      refine region_B (n := 15) (m := 16) (f := 15) (by kernel_rfl) (by kernel_rfl) rfl ?_
      refine WpH.vD 0 (some 57) ?_ rfl rfl (by kernel_rfl) (fun _ _ _ h => h) rfl (fun wz hwz => ?_) ?_
      rotate_left
      ·go_simp; try (with_reducible rfl)
      simp only [Zp, Zq, Zr, Zs]
      refine WpH.vD 1 (some 58) ?_ rfl rfl (by kernel_rfl) (fun _ _ _ h => h) rfl (fun wz hwz => ?_) ?_
      rotate_left
      ·(obtain ⟨hcz, hfz⟩ := bcell hwz; go_simp; try (with_reducible rfl))
      simp only [Zp, Zq, Zr, Zs]
      refine WpH.vD 2 (some 59) ?_ rfl rfl (by kernel_rfl) (fun _ _ _ h => h) rfl (fun wz hwz => ?_) ?_
      rotate_left
      ·go_simp; try (with_reducible rfl)
      simp only [Zp, Zq, Zr, Zs]
      refine WpH.vD 3 (some 60) ?_ rfl rfl (by kernel_rfl) (fun _ _ _ h => h) rfl (fun wz hwz => ?_) ?_
      rotate_left
      ·go_simp; try (with_reducible rfl)
      simp only [Zp, Zq, Zr, Zs]
      refine WpH.vD 4 (some 61) ?_ rfl rfl (by kernel_rfl) (fun _ _ _ h => h) rfl (fun wz hwz => ?_) ?_
      rotate_left
      ·go_simp; try (with_reducible rfl)
      simp only [Zp, Zq, Zr, Zs]
      refine WpH.vD 5 (some 62) ?_ rfl rfl (by kernel_rfl) (fun _ _ _ h => h) rfl (fun wz hwz => ?_) ?_
      rotate_left
      ·(obtain ⟨hcz, hfz⟩ := bcell hwz; go_simp; try (with_reducible rfl))
      simp only [Zp, Zq, Zr, Zs]
      refine WpH.vD 6 (some 63) ?_ rfl rfl (by kernel_rfl) (fun _ _ _ h => h) rfl (fun wz hwz => ?_) ?_
      rotate_left
      ·go_simp; try (with_reducible rfl)
      simp only [Zp, Zq, Zr, Zs]
      refine WpH.vD 7 (some 64) ?_ rfl rfl (by kernel_rfl) (fun _ _ _ h => h) rfl (fun wz hwz => ?_) ?_
      rotate_left
      ·go_simp; try (with_reducible rfl)
      simp only [Zp, Zq, Zr, Zs]
      refine WpH.vD 8 (some 65) ?_ rfl rfl (by kernel_rfl) (fun _ _ _ h => h) rfl (fun wz hwz => ?_) ?_
      rotate_left
      ·(obtain ⟨hcz, hfz⟩ := bcell hwz; go_simp; try (with_reducible rfl))
      simp only [Zp, Zq, Zr, Zs]
      refine WpH.vD 9 (some 66) ?_ rfl rfl (by kernel_rfl) (fun _ _ _ h => h) rfl (fun wz hwz => ?_) ?_
      rotate_left
      ·go_simp; try (with_reducible rfl)
      simp only [Zp, Zq, Zr, Zs]
      refine WpH.vD 10 (some 67) ?_ rfl rfl (by kernel_rfl) (fun _ _ _ h => h) rfl (fun wz hwz => ?_) ?_
      rotate_left
      ·go_simp; try (with_reducible rfl)
      simp only [Zp, Zq, Zr, Zs]
      refine WpH.vD 11 (some 68) ?_ rfl rfl (by kernel_rfl) (fun _ _ _ h => h) rfl (fun wz hwz => ?_) ?_
      rotate_left
      ·go_simp; try (with_reducible rfl)
      simp only [Zp, Zq, Zr, Zs]
      refine WpH.vD 12 (some 69) ?_ rfl rfl (by kernel_rfl) (fun _ _ _ h => h) rfl (fun wz hwz => ?_) ?_
      rotate_left
      ·(obtain ⟨hcz, hfz⟩ := bcell hwz; go_simp; try (with_reducible rfl))
      simp only [Zp, Zq, Zr, Zs]
      refine WpH.takeD 13 (some 70) rfl rfl (by kernel_rfl) (fun _ _ _ h => h) (.call rfl (fun wz hwz => HAJ.out wz) (fun wz hwz => ?_)) ?_
      ·go_simp; try (with_reducible rfl)
      simp only [Zp, Zq, Zr, Zs]
      refine WpH.vD 14 (some 71) ?_ rfl rfl (by kernel_rfl) (fun _ _ _ h => h) rfl (fun wz hwz => ?_) ?_
      rotate_left
      ·go_simp; try (with_reducible rfl)
      simp only [Zp, Zq, Zr, Zs]
      refine WpH.doneB (by kernel_rfl) (fun w10 hw10 => ?_)
      (try simp only [List.drop_succ_cons]); (try simp only [List.drop_zero]); (try simp only [Nat.reduceSub]); (try simp only [List.take_succ_cons]); (try simp only [List.take_zero])
      clear x0 x1 x2 x3 x4 s0 s1 o0 o1 hsl hol
      replace hb00 := bl_call hb00 (Nat.le_refl _) hw10
      replace hX := hX.call hw10
      replace hT := hT.call hw10
      replace hr := hr.call hw10
      replace hS := hS.call hw10
      replace hE := hE.call hw10
      replace hR := hR.call hw10
      replace hO := hO.call hw10
      clear hw10
      obtain ⟨s0, s1⟩ := hS.at (i := j) (x := s9) (by rw [part_at HSA.out (by rw [HSN.out]; exact HJL.out)]; exact HS9.out)
      obtain ⟨s2, s3⟩ := hS.frz HJS.out
      have hsl := Vs.lt hS
      have HSn := Lib.hid (hS.set j HJS.out (s9 + y9))
      rw [part_set HSA.out HSJ.out] at HSn
      have hgx := HGX.out
      have hgo := HGO.out
      have hrb := HRB.out
      have hxw := HXW.out
      have n1 : gS ≠ go := by omega
      have n2 : gS ≠ xb := by omega
      have n3 : gS ≠ rb := by omega
      have n4 : gS ≠ w.heap.size := by omega
      have n5 : gS ≠ w.heap.size + 1 := by omega
      have HOn := Lib.hid ((hO.far (p := ⟨gS, j * 2, none⟩) n1 (.int .u64 (lo (s9 + y9)))).far (p := ⟨gS, j * 2 + 1, none⟩) n1 (.int .u64 (Go.Proofs.Ytbakkmfjamcbfaa.hi (s9 + y9))))
      have HXn := Lib.hid ((hX.far (p := ⟨gS, j * 2, none⟩) n2 (.int .u64 (lo (s9 + y9)))).far (p := ⟨gS, j * 2 + 1, none⟩) n2 (.int .u64 (Go.Proofs.Ytbakkmfjamcbfaa.hi (s9 + y9))))
      have HRn := Lib.hid ((hR.far (p := ⟨gS, j * 2, none⟩) n3 (.int .u64 (lo (s9 + y9)))).far (p := ⟨gS, j * 2 + 1, none⟩) n3 (.int .u64 (Go.Proofs.Ytbakkmfjamcbfaa.hi (s9 + y9))))
      have HTn := Lib.hid ((hT.far (p := ⟨gS, j * 2, none⟩) n4 (.int .u64 (lo (s9 + y9)))).far (p := ⟨gS, j * 2 + 1, none⟩) n4 (.int .u64 (Go.Proofs.Ytbakkmfjamcbfaa.hi (s9 + y9))))
      have Hrn := Lib.hid ((hr.far (p := ⟨gS, j * 2, none⟩) n5 (.int .u64 (lo (s9 + y9)))).far (p := ⟨gS, j * 2 + 1, none⟩) n5 (.int .u64 (Go.Proofs.Ytbakkmfjamcbfaa.hi (s9 + y9))))
      have HEn := Lib.hid (exc_sc (b := gS) (exc_sc (b := gS) hE (.inl (Nat.le_of_lt hgx.1)) (j * 2) (.int .u64 (lo (s9 + y9)))) (.inl (Nat.le_of_lt hgx.1)) (j * 2 + 1) (.int .u64 (Go.Proofs.Ytbakkmfjamcbfaa.hi (s9 + y9))))
      have HBn := Lib.hid (bl_set (p := ⟨gS, j * 2 + 1, none⟩) (bl_set (p := ⟨gS, j * 2, none⟩) hb00 hgx.2.2.1 (.int .u64 (lo (s9 + y9)))) hgx.2.2.1 (.int .u64 (Go.Proofs.Ytbakkmfjamcbfaa.hi (s9 + y9))))
      clear hS hO hX hR hT hr hE hb00 n1 n2 n3 n4 n5 hgx hgo hrb hxw
      go_wp2_with fail
      go_roundw
      case rel => exact ⟨j + 1, by omega, by go_num, HSn.out, HOn.out, HXn.out, HRn.out, HTn.out, Hrn.out, HEn.out, HBn.out⟩
      case measure => simp [intOf]; omega
     ·have hpos : 0 < es.length := by omega
      obtain ⟨bu, ou, hAue, hbu, hru⟩ := HAU.out hpos
      subst hAue
      obtain ⟨q, hq⟩ : ∃ q, j % es.length = q := ⟨_, rfl⟩
      have hql : q < es.length := by rw [← hq]; exact Nat.mod_lt _ hpos
      obtain ⟨e9, he9⟩ : ∃ e, es[q]? = some e := ⟨_, List.getElem?_eq_getElem hql⟩
      obtain ⟨e0, e1⟩ := e9
      have HOY0 := (HOA.out j hjl).2 q _ hpos hq he9
      obtain ⟨c0, c1⟩ := (hru.below hb00 hbu) q _ he9
      have hok := HOKU.out _ (List.mem_of_getElem? he9)
      have htm : (j : Int).tmod (es.length : Int) = (q : Int) := by rw [Int.tmod_eq_emod_of_nonneg (by omega), ← Int.natCast_emod, hq]
      have hL0 : ¬ es = [] := fun h => by
       rw [h] at hpos
       simp at hpos
      have hq1 : (q : Int) < (es.length : Int) := by omega
      have hwq : IntKind.i64.wrap (q : Int) = (q : Int) := IntWalk.i64_in _ (by omega)
      obtain ⟨y9, hy9⟩ : ∃ y, kL f e0 e1 = y := ⟨_, rfl⟩
      have HOY : Hid (o9[j]? = some y9) := by rw [← hy9]; exact HOY0
      have HOFJ : Hid (∀ wz, Calls Try.prog 55 #[.int .i64 F, .agg #[.int .u64 e0, .int .u64 e1]] wz fun e' w' => e' = .returned (.agg #[.int .u64 (lo y9), .int .u64 (Go.Proofs.Ytbakkmfjamcbfaa.hi y9)]) ∧ Below wz.heap.size wz w') := fun wz => by
       rw [← hy9]
       exact HOF.out (e0, e1) wz hok
      have hbul : bu < wq.heap.size := Nat.lt_of_lt_of_le hbu hb00.size
      dsimp only at c0 c1
      clear hq hes hy9 he9 HOY0 hok hru
      go_upto_region 12 with fail
      refine region_B (n := 14) (m := 15) (f := 14) (by kernel_rfl) (by kernel_rfl) rfl ?_
      refine WpH.vD 0 (some 43) ?_ rfl rfl (by kernel_rfl) (fun _ _ _ h => h) rfl (fun wz hwz => ?_) ?_
      rotate_left
      ·go_simp; try (with_reducible rfl)
      simp only [Zp, Zq, Zr, Zs]
      refine WpH.vD 1 (some 44) ?_ rfl rfl (by kernel_rfl) (fun _ _ _ h => h) rfl (fun wz hwz => ?_) ?_
      rotate_left
      ·go_simp; try (with_reducible rfl)
      simp only [Zp, Zq, Zr, Zs]
      refine WpH.vD 2 (some 45) ?_ rfl rfl (by kernel_rfl) (fun _ _ _ h => h) rfl (fun wz hwz => ?_) ?_
      rotate_left
      ·go_simp; try (with_reducible rfl)
      simp only [Zp, Zq, Zr, Zs]
      refine WpH.vD 3 (some 46) ?_ rfl rfl (by kernel_rfl) (fun _ _ _ h => h) rfl (fun wz hwz => ?_) ?_
      rotate_left
      ·go_simp; try (with_reducible rfl)
      simp only [Zp, Zq, Zr, Zs]
      refine WpH.vD 4 (some 47) ?_ rfl rfl (by kernel_rfl) (fun _ _ _ h => h) rfl (fun wz hwz => ?_) ?_
      rotate_left
      ·(obtain ⟨hcz, hfz⟩ := bcell hwz; go_simp; try (with_reducible rfl))
      simp only [Zp, Zq, Zr, Zs]
      refine WpH.vD 5 (some 48) ?_ rfl rfl (by kernel_rfl) (fun _ _ _ h => h) rfl (fun wz hwz => ?_) ?_
      rotate_left
      ·go_simp; try (with_reducible rfl)
      simp only [Zp, Zq, Zr, Zs]
      refine WpH.vD 6 (some 49) ?_ rfl rfl (by kernel_rfl) (fun _ _ _ h => h) rfl (fun wz hwz => ?_) ?_
      rotate_left
      ·go_simp; try (with_reducible rfl)
      simp only [Zp, Zq, Zr, Zs]
      refine WpH.vD 7 (some 50) ?_ rfl rfl (by kernel_rfl) (fun _ _ _ h => h) rfl (fun wz hwz => ?_) ?_
      rotate_left
      ·(obtain ⟨hcz, hfz⟩ := bcell hwz; go_simp; try (with_reducible rfl))
      simp only [Zp, Zq, Zr, Zs]
      refine WpH.vD 8 (some 51) ?_ rfl rfl (by kernel_rfl) (fun _ _ _ h => h) rfl (fun wz hwz => ?_) ?_
      rotate_left
      ·go_simp; try (with_reducible rfl)
      simp only [Zp, Zq, Zr, Zs]
      refine WpH.vD 9 (some 52) ?_ rfl rfl (by kernel_rfl) (fun _ _ _ h => h) rfl (fun wz hwz => ?_) ?_
      rotate_left
      ·go_simp; try (with_reducible rfl)
      simp only [Zp, Zq, Zr, Zs]
      refine WpH.vD 10 (some 53) ?_ rfl rfl (by kernel_rfl) (fun _ _ _ h => h) rfl (fun wz hwz => ?_) ?_
      rotate_left
      ·go_simp; try (with_reducible rfl)
      simp only [Zp, Zq, Zr, Zs]
      refine WpH.vD 11 (some 54) ?_ rfl rfl (by kernel_rfl) (fun _ _ _ h => h) rfl (fun wz hwz => ?_) ?_
      rotate_left
      ·(obtain ⟨hcz, hfz⟩ := bcell hwz; go_simp; try (with_reducible rfl))
      simp only [Zp, Zq, Zr, Zs]
      refine WpH.takeD 12 (some 55) rfl rfl (by kernel_rfl) (fun _ _ _ h => h) (.call rfl (fun wz hwz => HOFJ.out wz) (fun wz hwz => ?_)) ?_
      ·go_simp; try (with_reducible rfl)
      simp only [Zp, Zq, Zr, Zs]
      refine WpH.vD 13 (some 56) ?_ rfl rfl (by kernel_rfl) (fun _ _ _ h => h) rfl (fun wz hwz => ?_) ?_
      rotate_left
      ·go_simp; try (with_reducible rfl)
      simp only [Zp, Zq, Zr, Zs]
      refine WpH.doneB (by kernel_rfl) (fun w8 hw8 => ?_)
      (try simp only [List.drop_succ_cons]); (try simp only [List.drop_zero]); (try simp only [Nat.reduceSub]); (try simp only [List.take_succ_cons]); (try simp only [List.take_zero])
      clear c0 c1 r0 r1 htm hL0 hq1 hwq hbul
      replace hb00 := bl_call hb00 (Nat.le_refl _) hw8
      replace hX := hX.call hw8
      replace hT := hT.call hw8
      replace hr := hr.call hw8
      replace hS := hS.call hw8
      replace hE := hE.call hw8
      replace hR := hR.call hw8
      replace hO := hO.call hw8
      clear hw8
      obtain ⟨o0, o1⟩ := hO.at (i := j) (x := 0) (by rw [part_at HOZ.out (by rw [zK_length]; exact HJL.out)]; exact zK_at HJL.out)
      obtain ⟨o2, o3⟩ := hO.frz HJO.out
      have hol := Vs.lt hO
      have hO2 := hO.set j HJO.out y9
      rw [part_set HOZ.out HOY.out] at hO2
      have hgx := HGX.out
      have hgo := HGO.out
      have hbs := HXW.out
      have hrb := HRB.out
      replace hX := (hX.far (p := ⟨go, j * 2, none⟩) (by dsimp only; omega) (.int .u64 (lo y9))).far (p := ⟨go, j * 2 + 1, none⟩) (by dsimp only; omega) (.int .u64 (Go.Proofs.Ytbakkmfjamcbfaa.hi y9))
      replace hR := (hR.far (p := ⟨go, j * 2, none⟩) (by dsimp only; omega) (.int .u64 (lo y9))).far (p := ⟨go, j * 2 + 1, none⟩) (by dsimp only; omega) (.int .u64 (Go.Proofs.Ytbakkmfjamcbfaa.hi y9))
      replace hT := (hT.far (p := ⟨go, j * 2, none⟩) (by dsimp only; omega) (.int .u64 (lo y9))).far (p := ⟨go, j * 2 + 1, none⟩) (by dsimp only; omega) (.int .u64 (Go.Proofs.Ytbakkmfjamcbfaa.hi y9))
      replace hr := (hr.far (p := ⟨go, j * 2, none⟩) (by dsimp only; omega) (.int .u64 (lo y9))).far (p := ⟨go, j * 2 + 1, none⟩) (by dsimp only; omega) (.int .u64 (Go.Proofs.Ytbakkmfjamcbfaa.hi y9))
      replace hS := (hS.far (p := ⟨go, j * 2, none⟩) (by dsimp only; omega) (.int .u64 (lo y9))).far (p := ⟨go, j * 2 + 1, none⟩) (by dsimp only; omega) (.int .u64 (Go.Proofs.Ytbakkmfjamcbfaa.hi y9))
      replace hE := exc_sc (b := go) (exc_sc (b := go) hE (.inr hgo.2.2) (j * 2) (.int .u64 (lo y9))) (.inr hgo.2.2) (j * 2 + 1) (.int .u64 (Go.Proofs.Ytbakkmfjamcbfaa.hi y9))
      replace hb00 := bl_set (p := ⟨go, j * 2 + 1, none⟩) (bl_set (p := ⟨go, j * 2, none⟩) hb00 (by dsimp only; omega) (.int .u64 (lo y9))) (by dsimp only; omega) (.int .u64 (Go.Proofs.Ytbakkmfjamcbfaa.hi y9))
      clear hO
      have hO := hO2
      clear hO2 hgx hgo hbs hrb
      go_upto_region 13 with fail
      clear o0 o1 o2 o3 hol
      generalize (w8.setCell ⟨go, j * 2, none⟩ (.int .u64 (lo y9))).setCell ⟨go, j * 2 + 1, none⟩ (.int .u64 (Go.Proofs.Ytbakkmfjamcbfaa.hi y9)) = w9 at hO hX hR hT hr hS hE hb00 ⊢
      obtain ⟨r0, r1⟩ := hR.rep HID.out
      have HOJ : Hid ((o9.take (j + 1) ++ (zK f n).drop (j + 1))[j]? = some y9) := by
       show _ = _
       rw [List.getElem?_append_left (by rw [List.length_take, HOL.out]; omega), List.getElem?_take_of_lt (by omega)]
       exact HOY.out
      clear r0 r1
      obtain ⟨x0, x1, x2, x3, x4⟩ := hX.tot
      obtain ⟨s0, s1⟩ := hS.at (i := j) (x := s9) (by rw [part_at HSA.out (by rw [HSN.out]; exact HJL.out)]; exact HS9.out)
      obtain ⟨o0, o1⟩ := hO.at (i := j) (x := y9) HOJ.out
      have hsl := Vs.lt hS
      have hol := Vs.lt hO
      have HAJ : Hid (∀ wz, Calls Try.prog 56 #[.int .i64 F, .agg #[.int .u64 (lo s9), .int .u64 (hi s9)], .agg #[.int .u64 (lo y9), .int .u64 (hi y9)]] wz fun e w' => e = .returned (.agg #[.int .u64 (lo (s9 + y9)), .int .u64 (Go.Proofs.Ytbakkmfjamcbfaa.hi (s9 + y9))]) ∧ Below wz.heap.size wz w') := HAD.out s9 y9
      have HSJ : Hid ((addL S o9)[j]? = some (s9 + y9)) := addL_at HS9.out HOY.out
      refine region_B (n := 15) (m := 16) (f := 15) (by kernel_rfl) (by kernel_rfl) rfl ?_
      refine WpH.vD 0 (some 57) ?_ rfl rfl (by kernel_rfl) (fun _ _ _ h => h) rfl (fun wz hwz => ?_) ?_
      rotate_left
      ·go_simp; try (with_reducible rfl)
      simp only [Zp, Zq, Zr, Zs]
      refine WpH.vD 1 (some 58) ?_ rfl rfl (by kernel_rfl) (fun _ _ _ h => h) rfl (fun wz hwz => ?_) ?_
      rotate_left
      ·(obtain ⟨hcz, hfz⟩ := bcell hwz; go_simp; try (with_reducible rfl))
      simp only [Zp, Zq, Zr, Zs]
      refine WpH.vD 2 (some 59) ?_ rfl rfl (by kernel_rfl) (fun _ _ _ h => h) rfl (fun wz hwz => ?_) ?_
      rotate_left
      ·go_simp; try (with_reducible rfl)
      simp only [Zp, Zq, Zr, Zs]
      refine WpH.vD 3 (some 60) ?_ rfl rfl (by kernel_rfl) (fun _ _ _ h => h) rfl (fun wz hwz => ?_) ?_
      rotate_left
      ·go_simp; try (with_reducible rfl)
      simp only [Zp, Zq, Zr, Zs]
      refine WpH.vD 4 (some 61) ?_ rfl rfl (by kernel_rfl) (fun _ _ _ h => h) rfl (fun wz hwz => ?_) ?_
      rotate_left
      ·go_simp; try (with_reducible rfl)
      simp only [Zp, Zq, Zr, Zs]
      refine WpH.vD 5 (some 62) ?_ rfl rfl (by kernel_rfl) (fun _ _ _ h => h) rfl (fun wz hwz => ?_) ?_
      rotate_left
      ·(obtain ⟨hcz, hfz⟩ := bcell hwz; go_simp; try (with_reducible rfl))
      simp only [Zp, Zq, Zr, Zs]
      refine WpH.vD 6 (some 63) ?_ rfl rfl (by kernel_rfl) (fun _ _ _ h => h) rfl (fun wz hwz => ?_) ?_
      rotate_left
      ·go_simp; try (with_reducible rfl)
      simp only [Zp, Zq, Zr, Zs]
      refine WpH.vD 7 (some 64) ?_ rfl rfl (by kernel_rfl) (fun _ _ _ h => h) rfl (fun wz hwz => ?_) ?_
      rotate_left
      ·go_simp; try (with_reducible rfl)
      simp only [Zp, Zq, Zr, Zs]
      refine WpH.vD 8 (some 65) ?_ rfl rfl (by kernel_rfl) (fun _ _ _ h => h) rfl (fun wz hwz => ?_) ?_
      rotate_left
      ·(obtain ⟨hcz, hfz⟩ := bcell hwz; go_simp; try (with_reducible rfl))
      simp only [Zp, Zq, Zr, Zs]
      refine WpH.vD 9 (some 66) ?_ rfl rfl (by kernel_rfl) (fun _ _ _ h => h) rfl (fun wz hwz => ?_) ?_
      rotate_left
      ·go_simp; try (with_reducible rfl)
      simp only [Zp, Zq, Zr, Zs]
      refine WpH.vD 10 (some 67) ?_ rfl rfl (by kernel_rfl) (fun _ _ _ h => h) rfl (fun wz hwz => ?_) ?_
      rotate_left
      ·go_simp; try (with_reducible rfl)
      simp only [Zp, Zq, Zr, Zs]
      refine WpH.vD 11 (some 68) ?_ rfl rfl (by kernel_rfl) (fun _ _ _ h => h) rfl (fun wz hwz => ?_) ?_
      rotate_left
      ·go_simp; try (with_reducible rfl)
      simp only [Zp, Zq, Zr, Zs]
      refine WpH.vD 12 (some 69) ?_ rfl rfl (by kernel_rfl) (fun _ _ _ h => h) rfl (fun wz hwz => ?_) ?_
      rotate_left
      ·(obtain ⟨hcz, hfz⟩ := bcell hwz; go_simp; try (with_reducible rfl))
      simp only [Zp, Zq, Zr, Zs]
      refine WpH.takeD 13 (some 70) rfl rfl (by kernel_rfl) (fun _ _ _ h => h) (.call rfl (fun wz hwz => HAJ.out wz) (fun wz hwz => ?_)) ?_
      ·go_simp; try (with_reducible rfl)
      simp only [Zp, Zq, Zr, Zs]
      refine WpH.vD 14 (some 71) ?_ rfl rfl (by kernel_rfl) (fun _ _ _ h => h) rfl (fun wz hwz => ?_) ?_
      rotate_left
      ·go_simp; try (with_reducible rfl)
      simp only [Zp, Zq, Zr, Zs]
      refine WpH.doneB (by kernel_rfl) (fun w10 hw10 => ?_)
      (try simp only [List.drop_succ_cons]); (try simp only [List.drop_zero]); (try simp only [Nat.reduceSub]); (try simp only [List.take_succ_cons]); (try simp only [List.take_zero])
      clear x0 x1 x2 x3 x4 s0 s1 o0 o1 hsl hol
      replace hb00 := bl_call hb00 (Nat.le_refl _) hw10
      replace hX := hX.call hw10
      replace hT := hT.call hw10
      replace hr := hr.call hw10
      replace hS := hS.call hw10
      replace hE := hE.call hw10
      replace hR := hR.call hw10
      replace hO := hO.call hw10
      clear hw10
      obtain ⟨s0, s1⟩ := hS.at (i := j) (x := s9) (by rw [part_at HSA.out (by rw [HSN.out]; exact HJL.out)]; exact HS9.out)
      obtain ⟨s2, s3⟩ := hS.frz HJS.out
      have hsl := Vs.lt hS
      have HSn := Lib.hid (hS.set j HJS.out (s9 + y9))
      rw [part_set HSA.out HSJ.out] at HSn
      have hgx := HGX.out
      have hgo := HGO.out
      have hrb := HRB.out
      have hxw := HXW.out
      have n1 : gS ≠ go := by omega
      have n2 : gS ≠ xb := by omega
      have n3 : gS ≠ rb := by omega
      have n4 : gS ≠ w.heap.size := by omega
      have n5 : gS ≠ w.heap.size + 1 := by omega
      have HOn := Lib.hid ((hO.far (p := ⟨gS, j * 2, none⟩) n1 (.int .u64 (lo (s9 + y9)))).far (p := ⟨gS, j * 2 + 1, none⟩) n1 (.int .u64 (Go.Proofs.Ytbakkmfjamcbfaa.hi (s9 + y9))))
      have HXn := Lib.hid ((hX.far (p := ⟨gS, j * 2, none⟩) n2 (.int .u64 (lo (s9 + y9)))).far (p := ⟨gS, j * 2 + 1, none⟩) n2 (.int .u64 (Go.Proofs.Ytbakkmfjamcbfaa.hi (s9 + y9))))
      have HRn := Lib.hid ((hR.far (p := ⟨gS, j * 2, none⟩) n3 (.int .u64 (lo (s9 + y9)))).far (p := ⟨gS, j * 2 + 1, none⟩) n3 (.int .u64 (Go.Proofs.Ytbakkmfjamcbfaa.hi (s9 + y9))))
      have HTn := Lib.hid ((hT.far (p := ⟨gS, j * 2, none⟩) n4 (.int .u64 (lo (s9 + y9)))).far (p := ⟨gS, j * 2 + 1, none⟩) n4 (.int .u64 (Go.Proofs.Ytbakkmfjamcbfaa.hi (s9 + y9))))
      have Hrn := Lib.hid ((hr.far (p := ⟨gS, j * 2, none⟩) n5 (.int .u64 (lo (s9 + y9)))).far (p := ⟨gS, j * 2 + 1, none⟩) n5 (.int .u64 (Go.Proofs.Ytbakkmfjamcbfaa.hi (s9 + y9))))
      have HEn := Lib.hid (exc_sc (b := gS) (exc_sc (b := gS) hE (.inl (Nat.le_of_lt hgx.1)) (j * 2) (.int .u64 (lo (s9 + y9)))) (.inl (Nat.le_of_lt hgx.1)) (j * 2 + 1) (.int .u64 (Go.Proofs.Ytbakkmfjamcbfaa.hi (s9 + y9))))
      have HBn := Lib.hid (bl_set (p := ⟨gS, j * 2 + 1, none⟩) (bl_set (p := ⟨gS, j * 2, none⟩) hb00 hgx.2.2.1 (.int .u64 (lo (s9 + y9)))) hgx.2.2.1 (.int .u64 (Go.Proofs.Ytbakkmfjamcbfaa.hi (s9 + y9))))
      clear hS hO hX hR hT hr hE hb00 n1 n2 n3 n4 n5 hgx hgo hrb hxw
      go_wp2_with fail
      go_roundw
      case rel => exact ⟨j + 1, by omega, by go_num, HSn.out, HOn.out, HXn.out, HRn.out, HTn.out, Hrn.out, HEn.out, HBn.out⟩
      case measure => simp [intOf]; omega
    ·obtain rfl : j = n := by omega
     rw [part_end HSA.out HSN.out.symm] at hS
     rw [part_end HOZ.out (by rw [zK_length])] at hO
     have HSAN := Lib.hid (addL_len HSN.out HOL.out)
     have h2 := H2.out
     generalize addL S o9 = S2 at hS h2 HSAN
     have H22 := Lib.hid h2
     clear h2
     have hwi : IntKind.i64.wrap ((i : Int) + 1) = (((i + 1 : Nat) : Int)) := by rw [IntWalk.i64_in _ (by omega)]; omega
     obtain ⟨i2, hi2⟩ : ∃ z : Int, ((i + 1 : Nat) : Int) = z := ⟨_, rfl⟩
     rw [hi2] at hwi
     have HI2 := Lib.hid hi2
     clear hi2
     obtain ⟨x0, x1, x2, x3, x4⟩ := hX.tot
     have hgx := HGX.out
     have hgo := HGO.out
     have hbs := HXW.out
     have hrb := HRB.out
     have hX2 := hX.totPutM i2
     replace hR := hR.far (p := ⟨xb, 1, none⟩) (by dsimp only; omega) (.int .i64 i2)
     replace hT := hT.far (p := ⟨xb, 1, none⟩) (by dsimp only; omega) (.int .i64 i2)
     replace hr := hr.far (p := ⟨xb, 1, none⟩) (by dsimp only; omega) (.int .i64 i2)
     replace hS := hS.far (p := ⟨xb, 1, none⟩) (by dsimp only; omega) (.int .i64 i2)
     replace hO := hO.far (p := ⟨xb, 1, none⟩) (by dsimp only; omega) (.int .i64 i2)
     replace hE := exc_sc (b := xb) hE (.inl (Nat.le_refl _)) 1 (.int .i64 i2)
     replace hb00 := bl_set (p := ⟨xb, 1, none⟩) hb00 (by dsimp only; omega) (.int .i64 i2)
     clear hX hgx hgo hbs hrb
     go_upto_region 16 with fail
     clear x0 x1 x2 x3 x4 hwi
     generalize wq.setCell ⟨xb, 1, none⟩ (.int .i64 i2) = w11 at hX2 hR hT hr hS hO hE hb00 ⊢
     have hxl11 := hX2.lt
     refine wp_region_lit ?_
     refine wpList_valD (some 77) rfl rfl (by (go_simp; first | with_reducible rfl | exact ⟨rfl, rfl⟩ | (trace_state; fail))) ?_
     simp only [Zp, Zq, Zr, Zs]
     refine wpList_valD (some 78) rfl rfl (by (go_simp; first | with_reducible rfl | exact ⟨rfl, rfl⟩ | (trace_state; fail))) ?_
     simp only [Zp, Zq, Zr, Zs]
     refine wpList_callD (some 79) rfl rfl 57 _ ?_ (HH.out id rb 16 w11 HID.out HI8.out (fun q hq => hR.repI hq) hR.lt) ?_
     ·go_simp; try (with_reducible rfl)
     rintro e w12 ⟨gh, cph, rfl, hoh, hb12⟩
     refine ⟨_, rfl, ?_⟩
     simp only [Zp, Zq, Zr, Zs]
     replace hb00 := bl_call hb00 (Nat.le_refl _) hb12
     replace hX2 := hX2.call hb12
     replace hT := hT.call hb12
     replace hr := hr.call hb12
     replace hS := hS.call hb12
     replace hE := hE.call hb12
     replace hR := hR.call hb12
     replace hO := hO.call hb12
     refine wpList_valD (some 13) rfl rfl (by (go_simp; first | with_reducible rfl | exact ⟨rfl, rfl⟩ | (trace_state; fail))) ?_
     simp only [Zp, Zq, Zr, Zs]
     have hhl := (hashF_ok 7 id).1
     have hgh := own_rowB hoh
     have hrw : RowB w12 gh 0 (hashF 7 id) := hgh.1
     have HGH : Hid (gh < w12.heap.size) := hgh.2.1
     have HGHX : Hid (¬ gh ≤ xb) := by
      have h := hgh.2.2
      show ¬ _
      omega
     have HE12 := Lib.hid hE.size
     clear hoh hgh hb12 hxl11
     have HMX : Hid (mixX K (hashF 7 id) 16 = chkF z16 (ids.take (i + 1))) := by
      show _ = _
      rw [H1.out, mixX_eq K (hashF 7 id) (hhl.trans HKL.out.symm) 16 (by rw [HKL.out]; exact Nat.le_refl _), List.take_of_length_le (by rw [xorL_length HKL.out hhl]; exact Nat.le_refl _), List.drop_of_length_le (by rw [HKL.out]; exact Nat.le_refl _), List.append_nil]
     generalize hashF 7 id = z at hhl hrw HMX
     have HZ16 := Lib.hid hhl
     have HML : Hid (∀ q, (mixX K z q).length = 16) := fun q => (mixX_length K z q).trans HKL.out
     have HRW := Lib.hid hrw
     have hX3 : Vs w12 xb (totL (.slice (some ⟨gS, 0, none⟩) j j) i2 (mixX K z 0)) := hX2
     have hE12 := exc_of (S := fun q => q ≤ xb) (Below.refl w12.heap.size w12)
     have HOWN := Lib.hid hown
     have HOB := Lib.hid hob
     have HPS := Lib.hid hps
     clear hX2 hhl hrw hown hps
     go_upto_region 17 with fail
     go_wp2_with fail
     go_loopw [80] (fun v80 wp => ∃ q : Nat, q ≤ 16 ∧ v80 = .int .i64 q ∧ Vs wp xb (totL (.slice (some ⟨gS, 0, none⟩) j j) i2 (mixX K z q)) ∧ RwK wp gS S2 ∧ RwK wp go o9 ∧
      Vs wp w.heap.size [.int .u8 k, .int .u8 F, .int .i64 b, .int .i64 l, .int .i64 m, .int .i64 c, .int .i64 p, .string s] ∧ Vs wp (w.heap.size + 1) (totL (.slice none 0 0) 0 z16) ∧ Exc (fun q => q ≤ xb) wo.heap.size wo wp ∧ Exc (fun q => q ≤ xb) w12.heap.size w12 wp ∧ Below w.heap.size w wp) (fun v80 _ => 16 - (intOf v80).toNat)
     case atStart => exact ⟨0, by omega, rfl, hX3, hS, hO, hT, hr, hE, hE12, hb00⟩
     case round =>
      clear hX3 hS hO hT hr hE hE12 hb00 hR
      obtain ⟨q, hq16, rfl, hX, hS, hO, hT, hr, hE, hE12, hb00⟩ := hrel
      obtain ⟨wp, hwp⟩ : ∃ z : World, z = wr := ⟨wr, rfl⟩
      subst hwp
      by_cases hql : q < 16
      ·obtain ⟨a0, a1⟩ := hX.totK (i := q) (by rw [HML.out]; exact hql)
       obtain ⟨x9, hx9⟩ : ∃ y, (mixX K z q).getD q 0 = y := ⟨_, rfl⟩
       rw [hx9] at a0
       have hzq : z[q]? = some (z.getD q 0) := by
        rw [List.getD_eq_getElem?_getD, List.getElem?_eq_getElem (by rw [HZ16.out]; exact hql)]
        rfl
       have d0 := (hE12.cell (p := ⟨gh, 0 + q, none⟩) HGH.out HGHX.out).trans (HRW.out q _ hzq)
       obtain ⟨y9, hy9⟩ : ∃ y, z.getD q 0 = y := ⟨_, rfl⟩
       rw [hy9, Nat.zero_add] at d0
       have HN : Hid (mixX K z (q + 1) = (mixX K z q).set q (X8 x9 y9)) := by
        show (mixX K z q).set q (X8 ((mixX K z q).getD q 0) (z.getD q 0)) = _
        rw [hx9, hy9]
       have hgl : gh < wp.heap.size := Nat.lt_of_lt_of_le HGH.out hE12.size
       have hxl := hX.lt
       clear hx9 hy9 hzq
       have hq1 : (q : Int) < 16 := by omega
       go_upto_region 20 with fail
       refine region_B (n := 11) (m := 12) (f := 11) (by kernel_rfl) (by kernel_rfl) rfl ?_
       refine WpH.vD 0 (some 83) ?_ rfl rfl (by kernel_rfl) (fun _ _ _ h => h) rfl (fun wz hwz => ?_) ?_
       rotate_left
       ·go_simp; try (with_reducible rfl)
       simp only [Zp, Zq, Zr, Zs]
       refine WpH.vD 1 (some 84) ?_ rfl rfl (by kernel_rfl) (fun _ _ _ h => h) rfl (fun wz hwz => ?_) ?_
       rotate_left
       ·go_simp; try (with_reducible rfl)
       simp only [Zp, Zq, Zr, Zs]
       refine WpH.vD 2 (some 85) ?_ rfl rfl (by kernel_rfl) (fun _ _ _ h => h) rfl (fun wz hwz => ?_) ?_
       rotate_left
       ·go_simp; try (with_reducible rfl)
       simp only [Zp, Zq, Zr, Zs]
       refine WpH.vD 3 (some 86) ?_ rfl rfl (by kernel_rfl) (fun _ _ _ h => h) rfl (fun wz hwz => ?_) ?_
       rotate_left
       ·(obtain ⟨hcz, hfz⟩ := bcell hwz; go_simp; try (with_reducible rfl))
       simp only [Zp, Zq, Zr, Zs]
       refine WpH.vD 4 (some 87) ?_ rfl rfl (by kernel_rfl) (fun _ _ _ h => h) rfl (fun wz hwz => ?_) ?_
       rotate_left
       ·go_simp; try (with_reducible rfl)
       simp only [Zp, Zq, Zr, Zs]
       refine WpH.vD 5 (some 88) ?_ rfl rfl (by kernel_rfl) (fun _ _ _ h => h) rfl (fun wz hwz => ?_) ?_
       rotate_left
       ·go_simp; try (with_reducible rfl)
       simp only [Zp, Zq, Zr, Zs]
       refine WpH.vD 6 (some 89) ?_ rfl rfl (by kernel_rfl) (fun _ _ _ h => h) rfl (fun wz hwz => ?_) ?_
       rotate_left
       ·go_simp; try (with_reducible rfl)
       simp only [Zp, Zq, Zr, Zs]
       refine WpH.vD 7 (some 90) ?_ rfl rfl (by kernel_rfl) (fun _ _ _ h => h) rfl (fun wz hwz => ?_) ?_
       rotate_left
       ·(obtain ⟨hcz, hfz⟩ := bcell hwz; go_simp; try (with_reducible rfl))
       simp only [Zp, Zq, Zr, Zs]
       refine WpH.vD 8 (some 91) ?_ rfl rfl (by kernel_rfl) (fun _ _ _ h => h) rfl (fun wz hwz => ?_) ?_
       rotate_left
       ·go_simp; try (with_reducible rfl)
       simp only [Zp, Zq, Zr, Zs]
       refine WpH.vD 9 (some 92) ?_ rfl rfl (by kernel_rfl) (fun _ _ _ h => h) rfl (fun wz hwz => ?_) ?_
       rotate_left
       ·go_simp; try (with_reducible rfl)
       simp only [Zp, Zq, Zr, Zs]
       refine WpH.vD 10 (some 93) ?_ rfl rfl (by kernel_rfl) (fun _ _ _ h => h) rfl (fun wz hwz => ?_) ?_
       rotate_left
       ·go_simp; try (with_reducible rfl)
       simp only [Zp, Zq, Zr, Zs]
       refine WpH.doneB (by kernel_rfl) (fun w14 hw14 => ?_)
       (try simp only [List.drop_succ_cons]); (try simp only [List.drop_zero]); (try simp only [Nat.reduceSub]); (try simp only [List.take_succ_cons]); (try simp only [List.take_zero])
       clear a0 a1 d0 hgl hxl
       replace hb00 := bl_call hb00 (Nat.le_refl _) hw14
       replace hX := hX.call hw14
       replace hT := hT.call hw14
       replace hr := hr.call hw14
       replace hS := hS.call hw14
       replace hE := hE.call hw14
       replace hE12 := hE12.call hw14
       replace hO := hO.call hw14
       clear hw14
       obtain ⟨a0, a1⟩ := hX.totK (i := q) (by rw [HML.out]; exact hql)
       have hxl := hX.lt
       have hgx := HGX.out
       have hgo := HGO.out
       have hbs := HXW.out
       have hw12 := HE12.out
       have HXn := Lib.hid (hX.totPutK (i := q) (by rw [HML.out]; exact hql) (X8 x9 y9))
       have HSn := Lib.hid (hS.far (p := ⟨xb, 2 + q, none⟩) (by dsimp only; omega) (.int .u8 (X8 x9 y9)))
       have HOn := Lib.hid (hO.far (p := ⟨xb, 2 + q, none⟩) (by dsimp only; omega) (.int .u8 (X8 x9 y9)))
       have HTn := Lib.hid (hT.far (p := ⟨xb, 2 + q, none⟩) (by dsimp only; omega) (.int .u8 (X8 x9 y9)))
       have Hrn := Lib.hid (hr.far (p := ⟨xb, 2 + q, none⟩) (by dsimp only; omega) (.int .u8 (X8 x9 y9)))
       have HEn := Lib.hid (exc_sc (b := xb) hE (.inl (Nat.le_refl _)) (2 + q) (.int .u8 (X8 x9 y9)))
       have HEm := Lib.hid (exc_sc (b := xb) hE12 (.inl (Nat.le_refl _)) (2 + q) (.int .u8 (X8 x9 y9)))
       have HBn := Lib.hid (bl_set (p := ⟨xb, 2 + q, none⟩) hb00 (by dsimp only; omega) (.int .u8 (X8 x9 y9)))
       clear hX hS hO hT hr hE hE12 hb00 hgx hgo hbs hw12
       go_wp2_with fail
       go_roundw
       case rel => exact ⟨q + 1, by omega, by go_num, by rw [HN.out]; exact HXn.out, HSn.out, HOn.out, HTn.out, Hrn.out, HEn.out, HEm.out, HBn.out⟩
       case measure => simp [intOf]; omega
      ·obtain rfl : q = 16 := by omega
       rw [HMX.out] at hX
       have hgx := HGX.out
       have hgo := HGO.out
       have hbs := HXW.out
       have hobs := HOB.out
       have hown := own_other HOWN.out hE (fun g h => by
        have h2 := hobs g h
        intro h3
        omega)
       have hps2 := HPS.out.exc (hE.less (T := fun q => u8.ownBlock = some q ∨ q ≤ xb) fun k _ hk => .inr hk)
       have hgol := Vs.lt hO
       have hso : SlX (fun q => u8.ownBlock = some q ∨ q ≤ xb) wp (.slice (some ⟨go, 0, none⟩) j j) o9 := SlX.of HOL.out (Nat.le_refl _) (by omega) hgol (fun h => by
        rcases h with h | h
        ·have h2 := own_blk_lt HOWN.out h
         omega
        ·omega) hO.row
       have hwb := hb00.size
       have hxl := hX.lt
       clear hE hE12 hO hgol
       go_upto_region 22 with fail
       refine wp_region_lit ?_
       refine wpList_valD (some 95) rfl rfl (by (go_simp; first | with_reducible rfl | exact ⟨rfl, rfl⟩ | (trace_state; fail))) ?_
       simp only [Zp, Zq, Zr, Zs]
       refine wpList_valD (some 96) rfl rfl (by (go_simp; first | with_reducible rfl | exact ⟨rfl, rfl⟩ | (trace_state; fail))) ?_
       simp only [Zp, Zq, Zr, Zs]
       refine wpList_valD (some 97) rfl rfl (by (skip; go_simp; first | with_reducible rfl | exact ⟨rfl, rfl⟩ | (trace_state; fail))) ?_
       simp only [Zp, Zq, Zr, Zs]
       have hN := Vs.new wp [.slice (some ⟨go, 0, none⟩) j j] _ 73 rfl
       have hbA := (Below.refl wp.heap.size wp).alloc (Nat.le_refl _) (.cells #[.slice (some ⟨go, 0, none⟩) j j] 73)
       replace hb00 := bl_call hb00 (Nat.le_refl _) hbA
       replace hX := hX.call hbA
       replace hT := hT.call hbA
       replace hr := hr.call hbA
       replace hS := hS.call hbA
       replace hown := own_call hown hbA
       replace hps2 := hps2.call hbA
       replace hso := hso.call hbA
       clear hbA
       generalize wp.alloc (.cells #[.slice (some ⟨go, 0, none⟩) j j] 73) = w19 at hN hb00 hX hT hr hS hown hps2 hso ⊢
       have hw19 := hN.lt
       obtain ⟨nb, hnb⟩ : ∃ z, wp.heap.size = z := ⟨_, rfl⟩
       rw [hnb] at hN hw19
       simp only [hnb]
       refine wpList_append_S rfl (.tmp 95) (.tmp 97) rfl w.heap.size u8 i vs (by kernel_rfl) hown nb 1 (.slice (some ⟨go, 0, none⟩) j j) (by kernel_rfl) ⟨_, _, _, rfl⟩ (hN.cell 0 _ rfl) (by omega) hb00.size ?_
       intro v9 w20 hown9 hg9 hat9
       have hgx9 := grown_exc hg9
       have hX20 := hX.exc (S := fun q => u8.ownBlock = some q) (fun h => by
        have h2 := hobs _ h
        omega) hgx9
       have hS20 := Vs.exc (S := fun q => u8.ownBlock = some q) hS (fun h => by
        have h2 := hobs _ h
        omega) hgx9
       have hT20 := hT.exc (S := fun q => u8.ownBlock = some q) (fun h => by
        have h2 := hobs _ h
        omega) hgx9
       have hr20 := hr.exc (S := fun q => u8.ownBlock = some q) (fun h => by
        have h2 := hobs _ h
        omega) hgx9
       have hb20 := hb00.grown hg9 hb00.size (fun q hq => (World.ownsRow.lt hown q hq).1)
       have hps9 := (hps2.snoc hso).grown (r := u8.ownBlock) (r' := v9.ownBlock) (U := fun q => q ≤ xb) hg9 hat9
       rw [← H3.out] at hps9
       rw [← HI2.out] at hX20
       have hob9 : ∀ q, v9.ownBlock = some q → xb < q := fun q h => by
        rcases hat9 with h2 | h2
        ·exact hobs q (h2 ▸ h)
        ·rw [h2] at h
         injection h with h
         have h3 := hX.lt
         omega
       rw [← H22.out] at hS20
       have HA1 := Lib.hid hown9
       have HA2 := Lib.hid hob9
       have HA3 := Lib.hid hps9
       have HA4 := Lib.hid hX20
       have HA5 := Lib.hid hS20
       have HA6 := Lib.hid hT20
       have HA7 := Lib.hid hr20
       have HA8 := Lib.hid hb20
       clear hown9 hob9 hps9 hX20 hS20 hT20 hr20 hb20 hgx9 hown hob hps2 hso hX hS hT hr hb00 hN hat9 hg9 hw19 hobs hgx hgo hbs hwb hxl hnb
       go_wp2_with fail
       go_roundw
       case rel => exact ⟨i + 1, _, v9, by omega, by go_num, rfl, HA1.out, HA2.out, HA3.out, HA4.out, HA5.out, HA6.out, HA7.out, HA8.out⟩
       case measure => simp [intOf]; omega
  ·obtain rfl : i = N := by omega
   have HKL := Lib.hid (HCL.out i)
   obtain ⟨K, hK⟩ : ∃ K, chkF z16 (ids.take i) = K := ⟨_, rfl⟩
   have HKE := Lib.hid hK
   rw [hK] at hX HKL
   have hgx := HGX.out
   have hld := hX.loadT HKL.out
   have hst := hr.storeT (k := K) (v := .slice (some ⟨gS, 0, none⟩) n n) (m := (i : Int)) z16_length HKL.out rfl
   have HR := Lib.hid (hr.setT (k := K) (v := .slice (some ⟨gS, 0, none⟩) n n) (m := (i : Int)) z16_length HKL.out)
   have HB := Lib.hid (bl_setCells hb00 (b := w.heap.size + 1) (by omega) 0 (totL (.slice (some ⟨gS, 0, none⟩) n n) (i : Int) K))
   have HSS := Lib.hid (Vs.farW hS (b' := w.heap.size + 1) (by omega) 0 (totL (.slice (some ⟨gS, 0, none⟩) n n) (i : Int) K))
   have hEx := exc_setCells (S := fun q => q = w.heap.size + 1) (B := wo.heap.size) (w.heap.size + 1) rfl (totL (.slice (some ⟨gS, 0, none⟩) n n) (i : Int) K) 0 wo (exc_of (Below.refl _ _))
   have hown2 := own_other hown hEx (fun g h => by
    have h2 := hob g h
    intro h3
    omega)
   have hps2 := (hps.exc (hEx.less (T := fun q => u8.ownBlock = some q ∨ q ≤ xb) fun k _ hk => .inr (by
    have h2 : k = w.heap.size + 1 := hk
    omega))).toK
   rw [HC0.out.2.2] at hps2
   obtain ⟨A9, c9, rfl, hvl9, hsr9⟩ := own_slR hown2
   have HVL := Lib.hid hvl9
   have HSR := Lib.hid hsr9
   have HPK := Lib.hid hps2
   clear hX hS hr hb00 hT hK hown hown2 hob hps hps2 hEx hgx hvl9 hsr9
   go_upto_region 24 with fail
   refine wp_region_lit ?_
   refine wpList_valD (some 100) rfl rfl (exec_load rfl (by kernel_rfl) hld) ?_
   simp only [Zp, Zq, Zr, Zs]
   refine wpList_valD (some 101) rfl rfl (by (go_simp; first | with_reducible rfl | exact ⟨rfl, rfl⟩ | (trace_state; fail))) ?_
   simp only [Zp, Zq, Zr, Zs]
   refine wpList_skipD rfl rfl (exec_store rfl (by kernel_rfl) (by kernel_rfl) hst) ?_
   refine wpList_valD (some 5) rfl rfl (by (go_simp; first | with_reducible rfl | exact ⟨rfl, rfl⟩ | (trace_state; fail))) ?_
   simp only [Zp, Zq, Zr, Zs]
   go_upto_region 99 with fail
   exact bodyPost_ret (results_totalE (b := w.heap.size + 1) HR.out HKL.out rfl rfl) rfl ⟨gS, A9, c9, vs, by rw [HKE.out]; rfl, HSS.out, HGX.out.2.2.1, HVL.out, HSR.out, HPK.out, HB.out⟩

end Go.Proofs.Ytbakkmfjamcbfaa
