/-
 DirAll, PfU2, PfWg: for ProofWrong.
-/
import Derived.Test.YtfbfbijkkbflkaaGreatDoorQad
import Derived.Test.YtfbfbijkkbflkaaGreatDoorQae
import Derived.Test.YtfbfbijkkbflkaaGreatDoorQag
namespace Go.Proofs.YtfbfbijkkbflkaaGreatDoor
open Go.RowKit Fm
set_option linter.unusedVariables false
set_option maxRecDepth 100000

section
variable {f : Nat} (hf : IsF f)
include hf

omit hf in
theorem chunk_lt {n c i : Nat} (hc : 1 ≤ c) (hi : i < n) : i / c < (n + c - 1) / c := by
 have h := ceil_spec (n := n) hc
 exact Nat.div_lt_of_lt_mul (by rw [Nat.mul_comm]; omega)

theorem ref9_Direct (y : CK) (hy : y.ok) (hcl : y.calls ≤ 511) (vl vj : Value) (v j : KL f) (w : World) (hv : SlK w w.heap.size vl v) (hj : SlK w w.heap.size vj j) (hl : v.length = y.nin) (hjl : j.length = y.joint) :
  Calls Tryz.prog 86 #[y.rval f, vl, vj] w (RetK (dirF y v j) w) := by
 have hnin := CK.nin_le hy
 have hnin1 := CK.nin_pos hy
 cases y with
 | count => exact ref9_Direct1 hf 0 0 0 0 vl vj v w hv hl
 | sum b =>
  have h := ref9_Direct2 hf 0 0 0 b hy.1 vl vj v j w hv hj (by omega) (by omega) (fun i hi => by rw [Nat.div_eq_of_lt (by rw [hl] at hi; exact hi), hjl]; exact (by decide : 0 < 1)) (by rw [hjl]; exact (by decide : 1 ≤ 1)) (by rw [hjl]; exact (by decide : 1 ≤ 4096))
  rw [hl] at h
  exact h
 | vec b l c =>
  have h := ref9_DirectK hf 3 (.inl rfl) (b : Int) l 0 c hy.2.2.1 vl vj v j w hv hj (by omega) (by omega) (fun i hi => by rw [hjl]; exact chunk_lt hy.2.2.1 (by rw [hl] at hi; exact hi)) (by rw [hjl]; exact Nat.lt_of_le_of_lt (Nat.zero_le _) (chunk_lt (i := 0) hy.2.2.1 (by omega))) (by rw [hjl]; show (CK.vec b l c).calls ≤ 4096; omega) hy.2.1.2 (by omega) (by rw [hl]; exact Nat.le_mul_of_pos_right l hy.1.1) (fun h => by omega) _ (.inl ⟨rfl, rfl⟩)
  rw [hl] at h
  exact h
 | hist l c =>
  have hp : 0 < (CK.hist l c).calls := Nat.lt_of_le_of_lt (Nat.zero_le _) (chunk_lt (i := 0) hy.2.1 (by omega))
  have hjl2 : j.length = (CK.hist l c).calls + 1 := hjl
  have h := ref9_DirectK hf 4 (.inr (.inl rfl)) 0 l 0 c hy.2.1 vl vj v j w hv hj (by omega) (by omega) (fun i hi => by rw [hjl2]; have := chunk_lt (n := (CK.hist l c).nin) hy.2.1 (by rw [hl] at hi; exact hi); show i / c < (CK.hist l c).calls + 1; have h2 : i / c < (CK.hist l c).calls := this; omega) (by omega) (by omega) hy.1.2 (by omega) (by rw [hl]; exact Nat.le_refl _) (fun h => by omega) _ (.inr (.inl ⟨rfl, rfl⟩))
  rw [hl] at h
  exact h
 | multi l m c =>
  have hp : 0 < (CK.multi l m c).calls := Nat.lt_of_le_of_lt (Nat.zero_le _) (chunk_lt (i := 0) hy.2.2.1 (by omega))
  have hjl2 : j.length = (CK.multi l m c).calls + 1 := hjl
  have hm : m ≤ 64 := by have := hy.1.2; have := hy.2.1.2; omega
  have h := ref9_DirectK hf 5 (.inr (.inr rfl)) 0 l m c hy.2.2.1 vl vj v j w hv hj (by omega) (by omega) (fun i hi => by rw [hjl2]; have := chunk_lt (n := (CK.multi l m c).nin) hy.2.2.1 (by rw [hl] at hi; exact hi); show i / c < (CK.multi l m c).calls + 1; have h2 : i / c < (CK.multi l m c).calls := this; omega) (by omega) (by omega) hy.1.2 hm (by rw [hl]; exact Nat.le_add_right _ _) (fun _ => by rw [hl]; have := (bitLen_small m hm).2.2 hy.2.1.1; show l < l + Lib.bitLen m; omega) _ (.inr (.inr ⟨rfl, rfl⟩))
  rw [hl] at h
  exact h
end

end Go.Proofs.YtfbfbijkkbflkaaGreatDoor

namespace Go.Proofs.YtfbfbijkkbflkaaGreatDoor
open Go.RowKit Fm
set_option linter.unusedVariables false
set_option maxRecDepth 100000

section
variable {f : Nat} (hf : IsF f)
include hf
set_option maxHeartbeats 2000000 in
theorem law11_Direct (y : CK) (hy : y.ok) (hcl : y.calls ≤ 511) (vl vj : Value) (v j : KL f) (w : World) (hv : SlK w w.heap.size vl v) (hj : SlK w w.heap.size vj j) (hl : v.length = y.nin) (hjl : j.length = y.joint) :
  Calls Tryz.prog 39 #[y.val f, vl, vj] w (RetK (dirF y v j) w) := by
 have HD : Hid (∀ wz, Below w.heap.size w wz → Calls Tryz.prog 86 #[y.rval f, vl, vj] wz (RetK (dirF y v j) wz)) := fun wz hb => ref9_Direct hf y hy hcl vl vj v j wz (hv.later hb) (hj.later hb) hl hjl
 have hk := y.k_le
 have hff : f = 1 ∨ f = 2 := hf.or
 have HR : Hid (∀ wz, Calls Tryz.prog 40 #[y.val f] wz fun e w' => e = .returned (y.rval f) ∧ Below wz.heap.size wz w') := fun wz => law10_Ref _ _ _ _ _ _ (by omega) (by omega) (by omega) (by omega) wz
 obtain ⟨z, hz⟩ : ∃ z, dirF y v j = z := ⟨_, rfl⟩
 rw [hz] at HD ⊢
 unfold CK.val at HR ⊢
 unfold CK.rval at HR HD
 generalize ((y.k : Nat) : Int) = K at *
 generalize ((y.b : Nat) : Int) = B at *
 generalize ((y.l : Nat) : Int) = NN at *
 generalize ((y.m : Nat) : Int) = M at *
 generalize ((y.c : Nat) : Int) = C at *
 clear hy hcl hl hjl hv hj hz hk hff
 go_enter Tryz.func39, Tryz.ntmps39
 go_upto_region 1 with fail
 have hyy := (Vs.new w [.int .u8 K, .int .u8 f, .int .i64 B, .int .i64 NN, .int .i64 M, .int .i64 C] #[.int .u8 K, .int .u8 f, .int .i64 B, .int .i64 NN, .int .i64 M, .int .i64 C] 30 rfl).alloc (.cells #[.int .u64 0, .int .u64 0] 36)
 have s0 := V2.new (w.alloc (.cells #[.int .u8 K, .int .u8 f, .int .i64 B, .int .i64 NN, .int .i64 M, .int .i64 C] 30)) (.int .u64 0) (.int .u64 0) 36
 simp only [World.size_alloc] at s0
 have hb00 : Below w.heap.size w ((w.alloc (.cells #[.int .u8 K, .int .u8 f, .int .i64 B, .int .i64 NN, .int .i64 M, .int .i64 C] 30)).alloc (.cells #[.int .u64 0, .int .u64 0] 36)) := by repeat (first | exact bA | with_reducible assumption | apply bB)
 have hszn : w.heap.size + 2 ≤ ((w.alloc (.cells #[.int .u8 K, .int .u8 f, .int .i64 B, .int .i64 NN, .int .i64 M, .int .i64 C] 30)).alloc (.cells #[.int .u64 0, .int .u64 0] 36)).heap.size := by simp only [World.size_alloc]; omega
 generalize ((w.alloc (.cells #[.int .u8 K, .int .u8 f, .int .i64 B, .int .i64 NN, .int .i64 M, .int .i64 C] 30)).alloc (.cells #[.int .u64 0, .int .u64 0] 36)) = w1 at hyy s0 hb00 hszn ⊢
 obtain ⟨⟨yy0, yy1, yy2, yy3, yy4, yy5⟩, ⟨yy6, yy7, yy8, yy9, yy10, yy11⟩, yy12⟩ := hyy.get6
 go_wp2_with (first
  | (go_at_call 40; refine (HR.out _).mono ?_; rintro e w2 ⟨rfl, hb2⟩; replace hb00 := bl_call hb00 (Nat.le_refl _) hb2; replace s0 := s0.call hb2; clear hb2)
  | (go_at_call 86; refine (HD.out _ hb00).mono ?_; rintro e w3 ⟨rfl, hb3⟩; have HB3 := Lib.hid hb3; obtain ⟨t0, t1, t2, t3, t4⟩ := s0.call hb3; clear hb3))
 refine bodyPost_ret (results_v2 (b := w.heap.size + 1) (u := .int .u64 (lo z)) (v := .int .u64 (hi z)) ?_ rfl rfl) rfl ?_
 ·exact V2.set ⟨t0, t1, t2, t3, t4⟩ _ _
 ·exact ⟨rfl, bl_st (bl_call hb00 (Nat.le_refl _) HB3.out) (by omega) _ _⟩

omit hf in
theorem dec_prv (y : CK) (hy : y.ok) {L : Nat} (hL : L ≤ 10) (hn : y.calls + 1 ≤ 2 ^ L) (v j seeds : KL f) (hl : v.length = y.nin) (hs : seeds.length = y.arity) (tot : Nat) (x : Fin (Pm f)) (l : KL f) (hl9 : qryL y L v j 1 (prvL L (y.gad f) seeds (argOf y v j 1) y.calls tot) x = l) :
  (decide (l.getD 0 0 = 0) && decide (gval (y.gad f) ((l.drop 1).take y.arity) = l.getD (y.arity + 1) 0)) = decide (dirF y v j = 0) := by
 subst hl9
 rw [qry_prv y hy hL hn v j seeds hl hs tot x, gad_arity f y]
 obtain ⟨h1, h2, h3⟩ := dec_list (dirF y v j) (gval (y.gad f) ((polysA L seeds (argOf y v j 1) y.calls y.arity).map (ev x))) ((polysA L seeds (argOf y v j 1) y.calls y.arity).map (ev x)) y.arity (by rw [List.length_map, polysA_length])
 rw [h1, h2, h3, decide_eq_true (rfl : gval (y.gad f) _ = gval (y.gad f) _), Bool.and_true]
theorem decide_prv (y : CK) (hy : y.ok) (hcl : y.calls ≤ 511) {L : Nat} (hL : L ≤ 10) (hn : y.calls + 1 ≤ 2 ^ L) (v j seeds : KL f) (hl : v.length = y.nin) (hs : seeds.length = y.arity) (tot : Nat) (x : Fin (Pm f)) (vz : Value) (w : World)
  (hz : SlK w w.heap.size vz (qryL y L v j 1 (prvL L (y.gad f) seeds (argOf y v j 1) y.calls tot) x)) :
  Calls Tryz.prog 36 #[y.val f, vz] w fun e w' => e = .returned (.tuple #[.bool (decide (dirF y v j = 0)), .int .i64 0]) ∧ Below w.heap.size w w' := by
 obtain ⟨l, hl9⟩ : ∃ l, qryL y L v j 1 (prvL L (y.gad f) seeds (argOf y v j 1) y.calls tot) x = l := ⟨_, rfl⟩
 have hlen : l.length = y.arity + 2 := by rw [← hl9, qryL_length]
 rw [hl9] at hz
 have h := proof_Decide hf y hy hcl vz l hlen w hz
 rwa [dec_prv y hy hL hn v j seeds hl hs tot x l hl9] at h
end

end Go.Proofs.YtfbfbijkkbflkaaGreatDoor

namespace Go.Proofs.YtfbfbijkkbflkaaGreatDoor
open Go.RowKit Fm
set_option linter.unusedVariables false
set_option maxRecDepth 100000

set_option maxHeartbeats 16000000 in
theorem walk_ProofWrong (k f b l m c : Int) (vl vm : Value) (xs ms : List E) (e0 e1 : Int) (w : World) (hT : TabW w) (hk : 0 ≤ k ∧ k ≤ 255) (hf : 0 ≤ f ∧ f ≤ 255) (hb : 0 ≤ b ∧ b ≤ 255) (hl : 0 ≤ l ∧ l ≤ 255) (hm : 0 ≤ m ∧ m ≤ 255) (hc : 0 ≤ c ∧ c ≤ 255)
  (hxs : SlE w w.heap.size vl xs) (hms : SlE w w.heap.size vm ms) (he0 : 0 ≤ e0 ∧ e0 ≤ 18446744073709551615) (he1 : 0 ≤ e1 ∧ e1 ≤ 18446744073709551615) :
  Calls Tryz.prog 6 #[.agg #[.int .u8 k, .int .u8 f, .int .u8 b, .int .u8 l, .int .u8 m, .int .u8 c], vl, vm, .agg #[.int .u64 e0, .int .u64 e1]] w fun e w' => e = .returned (.bool true) ∧ Below w.heap.size w w' := by
 obtain ⟨F, y, hF, hy, hCIR⟩ := law10_Circuit k f b l m c hk.1 hk.2 hf.1 hf.2 hb.1 hb.2 hl.1 hl.2 hm.1 hm.2 hc.1 hc.2
 have HAW : Hid (∀ wz, Below w.heap.size w wz → Calls Tryz.prog 10 #[] wz fun e w' => e = .returned (.bool true) ∧ Below wz.heap.size wz w') := fun wz h => law11_Awake wz (hT.call h)
 have HCIR := Lib.hid hCIR
 have hok := hy.ok
 have hcl : y.calls ≤ 511 := by have := hy.calls; omega
 have hcl2 := CK.calls_le hok
 have hnin := hy.nin
 have hal := CK.arity_le hok
 have hga := gad_arity F y
 have hjn : y.joint ≤ 512 := by cases y <;> simp only [CK.joint] <;> (try simp only [CK.calls] at hcl ⊢) <;> omega
 obtain ⟨L, hL, hN, hcN⟩ := small_log hy
 have hpn : y.proof ≤ 2000 := by
  have h2 : (2 : Nat) ^ L ≤ 2 ^ 8 := Nat.pow_le_pow_right (by omega) hL
  have h3 : (2 : Nat) ^ 8 = 256 := by decide
  show y.arity + 2 * (nextP (y.calls + 1) - 1) + 1 ≤ _
  rw [hN]
  omega
 have HVEC : Hid (∀ (vx : Value) (es : List E) wz, SlE w w.heap.size vx es → Below w.heap.size w wz → es.length ≤ 60 → Calls Tryz.prog 12 #[y.val F, vx, .bool false] wz fun e w' => ∃ q : Nat × KL F, e = .returned (.slice (some ⟨q.1, 0, none⟩) y.nin y.nin) ∧ (q.2.length = y.nin ∧ wz.heap.size ≤ q.1 ∧ BlkE w' q.1 (esK q.2)) ∧ Below wz.heap.size wz w') :=
  fun vx es wz hs hb h60 => (law10_Vector hF y hok vx es false wz ((hs.below hb).mono hb.size) h60).mono fun e w' ⟨g, zs, h1, h2, h3, h4, h5⟩ => ⟨(g, zs), h2, ⟨h1, h4, h3⟩, h5⟩
 have HJOI : Hid (∀ (vx : Value) (es : List E) wz, SlE w w.heap.size vx es → Below w.heap.size w wz → es.length ≤ 60 → Calls Tryz.prog 19 #[y.val F, vx, .int .i64 1] wz fun e w' => ∃ q : Nat × KL F, e = .returned (.slice (some ⟨q.1, 0, none⟩) y.joint y.joint) ∧ (q.2.length = y.joint ∧ wz.heap.size ≤ q.1 ∧ BlkE w' q.1 (esK q.2)) ∧ Below wz.heap.size wz w') :=
  fun vx es wz hs hb h60 => (law10_Joint hF y hok hcl vx es wz ((hs.below hb).mono hb.size) h60).mono fun e w' ⟨g, zs, h1, h2, h3, h4, h5⟩ => ⟨(g, zs), h2, ⟨h1, h4, h3⟩, h5⟩
 have HGAD : Hid (∀ wz, Calls Tryz.prog 27 #[y.val F] wz (RetG2 (y.gad F) wz)) := fun wz => circuit_Gadget2 hF y hok wz
 have HARI : Hid (∀ wz (B : Nat) (k : Int) (sl : Value) (n : Int), RepG wz B k sl n (y.gad F) → Calls Tryz.prog 28 #[.agg #[.int .u8 k, sl, .int .i64 n]] wz fun e w' => e = .returned (.int .i64 (y.arity : Nat)) ∧ Below wz.heap.size wz w') := fun wz B k sl n h => by
  have h2 := gadget_Arity wz B (y.gad F) k sl n h
  rwa [hga] at h2
 have HSO3 : Hid (∀ (vx : Value) (es : List E) wz, SlE w w.heap.size vx es → Below w.heap.size w wz → es.length ≤ 60 → Calls Tryz.prog 20 #[y.val F, vx, .int .i64 (y.arity : Nat), .int .i64 3] wz fun e w' => ∃ q : Nat × KL F, e = .returned (.slice (some ⟨q.1, 0, none⟩) y.arity y.arity) ∧ (q.2.length = y.arity ∧ wz.heap.size ≤ q.1 ∧ BlkE w' q.1 (esK q.2)) ∧ Below wz.heap.size wz w') :=
  fun vx es wz hs hb h60 => (law11_some hF y y.arity 3 (by omega) (by omega) vx es wz ((hs.below hb).mono hb.size) h60).mono fun e w' ⟨g, zs, h1, h2, h3, h4, h5⟩ => ⟨(g, zs), h2, ⟨h1, h4, h3⟩, h5⟩
 have HDIR : Hid (∀ wz (gv gj : Nat) (v j : KL F), v.length = y.nin → j.length = y.joint → BlkE wz gv (esK v) → BlkE wz gj (esK j) → Calls Tryz.prog 18 #[y.val F, .slice (some ⟨gv, 0, none⟩) y.nin y.nin, .slice (some ⟨gj, 0, none⟩) y.joint y.joint] wz (RetK0 (dirF y v j) wz)) :=
  fun wz gv gj v j h1 h2 b1 b2 => proof_Direct hF y hok hcl v j h1 h2 _ _ wz (b1.slM h1 (by omega)) (b2.slM h2 (by omega))
 have HLDI : Hid (∀ wz (gv gj : Nat) (v j : KL F), v.length = y.nin → j.length = y.joint → BlkE wz gv (esK v) → BlkE wz gj (esK j) → Calls Tryz.prog 39 #[y.val F, .slice (some ⟨gv, 0, none⟩) y.nin y.nin, .slice (some ⟨gj, 0, none⟩) y.joint y.joint] wz (RetK (dirF y v j) wz)) :=
  fun wz gv gj v j h1 h2 b1 b2 => law11_Direct hF y hok hcl _ _ v j wz (b1.slM h1 (by omega)) (b2.slM h2 (by omega)) h1 h2
 have HPRV : Hid (∀ wz (gv gs gj : Nat) (v s j : KL F), Below w.heap.size w wz → v.length = y.nin → s.length = y.arity → j.length = y.joint → BlkE wz gv (esK v) → BlkE wz gs (esK s) → BlkE wz gj (esK j) →
   Calls Tryz.prog 38 #[y.val F, .slice (some ⟨gv, 0, none⟩) y.nin y.nin, .slice (some ⟨gs, 0, none⟩) y.arity y.arity, .slice (some ⟨gj, 0, none⟩) y.joint y.joint] wz fun e w' => ∃ q : Nat × Nat, e = .returned (.tuple #[.slice (some ⟨q.1, 0, none⟩) y.proof q.2, .int .i64 0]) ∧ (wz.heap.size ≤ q.1 ∧ SlK w' w'.heap.size (.slice (some ⟨q.1, 0, none⟩) y.proof q.2) (prvL L (y.gad F) s (argOf y v j 1) y.calls y.proof)) ∧ Below wz.heap.size wz w') := fun wz gv gs gj v s j hb h1 h2 h3 b1 b2 b3 => by
  have h := proof_ProveN hF y hok (by omega) L hL hN v s j h1 h3 h2 _ _ _ wz (hT.call hb) (b1.slM h1 (by omega)) (b2.slM h2 (by omega)) (b3.slM h3 (by omega))
  refine h.mono ?_
  rintro e w' ⟨q, he, hn, hs, hb'⟩
  rw [prvL_length y L hN s h2] at he hs
  exact ⟨q, he, ⟨hn, hs⟩, hb'⟩
 obtain ⟨x, hx⟩ : ∃ x, kL F e0 e1 = x := ⟨_, rfl⟩
 have HOUT : Hid (∀ wz, Below w.heap.size w wz → Calls Tryz.prog 23 #[y.val F, .agg #[.int .u64 e0, .int .u64 e1]] wz fun e w' => e = .returned (.tuple #[vK x, .bool (!decide (Fm.kpow x (2 ^ L) = 1))]) ∧ Below wz.heap.size wz w') := fun wz h => by
  have h2 := law11_outside hF y hok hcl L (by omega) hN e0 e1 he0.1 he0.2 he1.1 he1.2 wz (hT.call h)
  rwa [any_pow (by omega), hx] at h2
 have hpl : ∀ s : KL F, s.length = y.arity → ∀ a, (prvL L (y.gad F) s a y.calls y.proof).length = y.proof := fun s h a => prvL_length y L hN s h a
 have HQN : Hid (Fm.kpow x (2 ^ L) = 1 → ∀ (wz : World) (gv gp cp gj : Nat) (v p j : KL F), Below w.heap.size w wz → gv ≠ gp → gj ≠ gp → v.length = y.nin → p.length = y.proof → j.length = y.joint → BlkE wz gv (esK v) → SlK wz wz.heap.size (.slice (some ⟨gp, 0, none⟩) y.proof cp) p → BlkE wz gj (esK j) →
   Calls Tryz.prog 24 #[y.val F, .slice (some ⟨gv, 0, none⟩) y.nin y.nin, .slice (some ⟨gp, 0, none⟩) y.proof cp, .slice (some ⟨gj, 0, none⟩) y.joint y.joint, .agg #[.int .u64 (lo x), .int .u64 (hi x)], .int .i64 1] wz (RetE9 12 wz)) := fun h1 wz gv gp cp gj v p j hb n1 n2 hv hp hj bv bp bj => by
  have h := proof_Query hF y hok (by omega) L hL hN 1 (.inl rfl) v p j hv hj hp x (.slice (some ⟨gv, 0, none⟩) y.nin y.nin) (.slice (some ⟨gj, 0, none⟩) y.joint y.joint) gp 0 cp wz (hT.call hb)
   (SlX.of hv (Nat.le_refl _) (by omega) bv.lt n1 bv.rowE) (SlX.of hj (Nat.le_refl _) (by omega) bj.lt n2 bj.rowE) bp
  refine h.mono ?_
  rintro e w' (⟨_, h⟩ | ⟨h, _⟩)
  ·exact h
  ·exact absurd h1 h
 have HQY : Hid (Fm.kpow x (2 ^ L) ≠ 1 → ∀ (wz : World) (gv gp cp gj : Nat) (v p j : KL F), Below w.heap.size w wz → gv ≠ gp → gj ≠ gp → v.length = y.nin → p.length = y.proof → j.length = y.joint → BlkE wz gv (esK v) → SlK wz wz.heap.size (.slice (some ⟨gp, 0, none⟩) y.proof cp) p → BlkE wz gj (esK j) →
   Calls Tryz.prog 24 #[y.val F, .slice (some ⟨gv, 0, none⟩) y.nin y.nin, .slice (some ⟨gp, 0, none⟩) y.proof cp, .slice (some ⟨gj, 0, none⟩) y.joint y.joint, .agg #[.int .u64 (lo x), .int .u64 (hi x)], .int .i64 1] wz fun e w' =>
    ∃ q : Option Addr × Nat, e = .returned (.tuple #[.slice q.1 (y.arity + 2) q.2, .int .i64 0]) ∧ SlK w' w'.heap.size (.slice q.1 (y.arity + 2) q.2) (qryL y L v j 1 p x) ∧ Below wz.heap.size wz w') := fun h1 wz gv gp cp gj v p j hb n1 n2 hv hp hj bv bp bj => by
  have h := proof_Query hF y hok (by omega) L hL hN 1 (.inl rfl) v p j hv hj hp x (.slice (some ⟨gv, 0, none⟩) y.nin y.nin) (.slice (some ⟨gj, 0, none⟩) y.joint y.joint) gp 0 cp wz (hT.call hb)
   (SlX.of hv (Nat.le_refl _) (by omega) bv.lt n1 bv.rowE) (SlX.of hj (Nat.le_refl _) (by omega) bj.lt n2 bj.rowE) bp
  rw [nK_one, kinv_one] at h
  refine h.mono ?_
  rintro e w' (⟨h, _⟩ | ⟨_, q, he, hs, hb'⟩)
  ·exact absurd h h1
  ·rw [qryL_length] at he hs
   exact ⟨q, he, hs, hb'⟩
 have HDEC : Hid (∀ (wz : World) (vz : Value) (v s j : KL F), v.length = y.nin → s.length = y.arity → SlK wz wz.heap.size vz (qryL y L v j 1 (prvL L (y.gad F) s (argOf y v j 1) y.calls y.proof) x) →
   Calls Tryz.prog 36 #[y.val F, vz] wz fun e w' => e = .returned (.tuple #[.bool (decide (dirF y v j = 0)), .int .i64 0]) ∧ Below wz.heap.size wz w') := fun wz vz v s j h1 h2 hz => decide_prv hF y hok hcl (by omega) hcN v j s h1 h2 y.proof x vz wz hz
 have HPL9 : Hid (∀ s : KL F, s.length = y.arity → ∀ a, (prvL L (y.gad F) s a y.calls y.proof).length = y.proof) := hpl
 have EQL : ∀ (a0 a1 b0 b1 : Int) (wz : World), (Op.equalIn 10000 36 (.agg #[.int .u64 a0, .int .u64 a1]) (.agg #[.int .u64 b0, .int .u64 b1])).run Tryz.prog wz = .ok (a0 == b0 && a1 == b1) wz := fun a0 a1 b0 b1 wz => run_equalIn_elem 9998 a0 a1 b0 b1 wz
 obtain ⟨⟨A1, c1, rfl, _, _, _⟩, _⟩ := id hxs
 obtain ⟨⟨A2, c2, rfl, _, _, _⟩, _⟩ := id hms
 have HXS := Lib.hid hxs
 have HMS := Lib.hid hms
 have HX : Hid ((Fm.kpow x (2 ^ L) = 1) ∨ ¬ (Fm.kpow x (2 ^ L) = 1)) := Classical.em _
 clear hxs hms hCIR hx he0 he1 hT hk hf hb hl hm hc hcl hcl2 hN hcN hL hal hok hnin hy hga hpl
 unfold CK.val at HCIR HVEC HJOI HSO3 HOUT HQN HQY HDIR HLDI HPRV HDEC HGAD
 generalize y.arity + 2 = n2 at *
 generalize y.nin = ni at *
 generalize y.joint = nj at *
 generalize y.proof = tot at *
 generalize y.arity = ar at *
 generalize y.gad F = gd at *
 generalize ((y.k : Nat) : Int) = yk at *
 generalize ((y.b : Nat) : Int) = yb at *
 generalize ((y.l : Nat) : Int) = yl at *
 generalize ((y.m : Nat) : Int) = ym at *
 generalize ((y.c : Nat) : Int) = yc at *
 have hb00 : Below w.heap.size w w := Below.refl _ _
 go_enter Tryz.func6, Tryz.ntmps6
 go_upto_region 1 with fail
 have hs := (Vs.new w [.int .u8 k, .int .u8 f, .int .u8 b, .int .u8 l, .int .u8 m, .int .u8 c] #[.int .u8 k, .int .u8 f, .int .u8 b, .int .u8 l, .int .u8 m, .int .u8 c] 23 rfl).alloc (.cells #[.int .u64 e0, .int .u64 e1] 36)
 have hee := V2.new (w.alloc (.cells #[.int .u8 k, .int .u8 f, .int .u8 b, .int .u8 l, .int .u8 m, .int .u8 c] 23)) (.int .u64 e0) (.int .u64 e1) 36
 simp only [World.size_alloc] at hee
 have hbw : Below w.heap.size w ((w.alloc (.cells #[.int .u8 k, .int .u8 f, .int .u8 b, .int .u8 l, .int .u8 m, .int .u8 c] 23)).alloc (.cells #[.int .u64 e0, .int .u64 e1] 36)) := by repeat (first | exact bA | with_reducible assumption | apply bB)
 have hszn : w.heap.size + 2 ≤ ((w.alloc (.cells #[.int .u8 k, .int .u8 f, .int .u8 b, .int .u8 l, .int .u8 m, .int .u8 c] 23)).alloc (.cells #[.int .u64 e0, .int .u64 e1] 36)).heap.size := by simp only [World.size_alloc]; omega
 generalize ((w.alloc (.cells #[.int .u8 k, .int .u8 f, .int .u8 b, .int .u8 l, .int .u8 m, .int .u8 c] 23)).alloc (.cells #[.int .u64 e0, .int .u64 e1] 36)) = w1 at hs hee hbw hszn ⊢
 clear hb00
 by_cases h40 : 40 < xs.length
 ·skip
  go_wp2_with (first
   | (go_at_call 10; refine (HAW.out _ hbw).mono ?_; rintro e w2 ⟨rfl, hb2⟩; replace hbw := bl_call hbw (Nat.le_refl _) hb2; replace hs := hs.call hb2; replace hee := hee.call hb2))
  go_ret
  exact ⟨rfl, hbw⟩
 by_cases h41 : 40 < ms.length
 ·skip
  go_wp2_with (first
   | (go_at_call 10; refine (HAW.out _ hbw).mono ?_; rintro e w2 ⟨rfl, hb2⟩; replace hbw := bl_call hbw (Nat.le_refl _) hb2; replace hs := hs.call hb2; replace hee := hee.call hb2))
  go_ret
  exact ⟨rfl, hbw⟩
 obtain ⟨⟨s0, s1, s2, s3, s4, s5⟩, ⟨s6, s7, s8, s9, s10, s11⟩, s12⟩ := hs.get6
 obtain ⟨ee0, ee1, ee2, ee3, ee4⟩ := V2.mk hee.c0 hee.c1 hee.f0 hee.f1 hee.lt
 go_upto_region 5 with (first
  | (go_at_call 10; refine (HAW.out _ hbw).mono ?_; rintro e w2 ⟨rfl, hb2⟩; replace hbw := bl_call hbw (Nat.le_refl _) hb2; replace hs := hs.call hb2; replace hee := hee.call hb2; clear s0 s1 s2 s3 s4 s5 s6 s7 s8 s9 s10 s11 s12 ee0 ee1 ee2 ee3 ee4; clear hb2; obtain ⟨⟨s0, s1, s2, s3, s4, s5⟩, ⟨s6, s7, s8, s9, s10, s11⟩, s12⟩ := hs.get6; obtain ⟨ee0, ee1, ee2, ee3, ee4⟩ := V2.mk hee.c0 hee.c1 hee.f0 hee.f1 hee.lt))
 go_upto_region 6 with (first
  | (go_at_call 11; refine (HCIR.out _).mono ?_; rintro e w3 ⟨rfl, hb3⟩; replace hbw := bl_call hbw (Nat.le_refl _) hb3; replace hs := hs.call hb3; replace hee := hee.call hb3; clear s0 s1 s2 s3 s4 s5 s6 s7 s8 s9 s10 s11 s12 ee0 ee1 ee2 ee3 ee4; clear hb3; obtain ⟨⟨s0, s1, s2, s3, s4, s5⟩, ⟨s6, s7, s8, s9, s10, s11⟩, s12⟩ := hs.get6; obtain ⟨ee0, ee1, ee2, ee3, ee4⟩ := V2.mk hee.c0 hee.c1 hee.f0 hee.f1 hee.lt))
 clear s0 s1 s2 s3 s4 s5 s6 s7 s8 s9 s10 s11 s12 ee0 ee1 ee2 ee3 ee4
 have hY := Vs.new w3 [.int .u8 yk, .int .u8 (F : Int), .int .i64 yb, .int .i64 yl, .int .i64 ym, .int .i64 yc] #[.int .u8 yk, .int .u8 (F : Int), .int .i64 yb, .int .i64 yl, .int .i64 ym, .int .i64 yc] 30 rfl
 have hbA : Below w3.heap.size w3 (w3.alloc (.cells #[.int .u8 yk, .int .u8 (F : Int), .int .i64 yb, .int .i64 yl, .int .i64 ym, .int .i64 yc] 30)) := by repeat (first | exact bA | with_reducible assumption | apply bB)
 replace hbw := bl_call hbw (Nat.le_refl _) hbA
 replace hs := hs.call hbA
 replace hee := hee.call hbA
 clear hbA
 generalize w3.alloc (.cells #[.int .u8 yk, .int .u8 (F : Int), .int .i64 yb, .int .i64 yl, .int .i64 ym, .int .i64 yc] 30) = w4 at hbw hs hee hY ⊢
 have h40' : xs.length ≤ 60 := by omega
 have h41' : ms.length ≤ 60 := by omega
 clear h40 h41 hs
 obtain ⟨⟨Y0, Y1, Y2, Y3, Y4, Y5⟩, ⟨Y6, Y7, Y8, Y9, Y10, Y11⟩, Y12⟩ := hY.get6
 apply region_G2 (n := 7) (m := 8) (f := 7) ((fun gi gj wz => Below w4.heap.size w4 wz ∧ (∃ lgi : KL F, lgi.length = ni ∧ w4.heap.size ≤ gi ∧ BlkE wz gi (esK lgi)) ∧ (∃ lgj : KL F, lgj.length = nj ∧ w4.heap.size ≤ gj ∧ BlkE wz gj (esK lgj)) ∧ gi ≠ gj))
 case hm => kernel_rfl
 case hB => kernel_rfl
 case hf => rfl
 case' h =>
  refine WpG.vD 0 (some 35) ?_ rfl rfl (by kernel_rfl) (fun _ _ _ h => h) rfl (fun wz hwz => ?_) ?_
  rotate_left
  ·(obtain ⟨hcz, hfz⟩ := bcell (hwz); go_simp; try (with_reducible rfl))
  simp only [Zp, Zq, Zr, Zs]
  refine WpG.vD 1 (some 36) ?_ rfl rfl (by kernel_rfl) (fun _ _ _ h => h) rfl (fun wz hwz => ?_) ?_
  rotate_left
  ·go_simp; try (with_reducible rfl)
  simp only [Zp, Zq, Zr, Zs]
  refine WpG.vD 3 (some 38) ?_ rfl rfl (by kernel_rfl) (fun _ _ _ h => h) rfl (fun wz hwz => ?_) ?_
  rotate_left
  ·(obtain ⟨hcz, hfz⟩ := bcell (hwz); go_simp; try (with_reducible rfl))
  simp only [Zp, Zq, Zr, Zs]
  refine WpG.vD 4 (some 39) ?_ rfl rfl (by kernel_rfl) (fun _ _ _ h => h) rfl (fun wz hwz => ?_) ?_
  rotate_left
  ·go_simp; try (with_reducible rfl)
  simp only [Zp, Zq, Zr, Zs]
  refine WpG.oneD 2 (some 37) rfl rfl (by kernel_rfl) (fun q : Nat × KL F => Value.slice (some ⟨q.1, 0, none⟩) ni ni) (fun q wz => q.2.length = ni ∧ w4.heap.size ≤ q.1 ∧ BlkE wz q.1 (esK q.2)) (fun _ _ _ h hb => ⟨h.1, h.2.1, h.2.2.call hb⟩) (Fresh.call rfl (fun wz hwz => (HVEC.out _ xs wz HXS.out (bl_call hbw (Nat.le_refl _) (hwz)) h40').mono fun e w' ⟨q, h1, ⟨h2, h3, h4⟩, h5⟩ => ⟨q, h1, ⟨h2, Nat.le_trans (hwz).size h3, h4⟩, h5⟩) (fun wz hwz => by go_simp; try (with_reducible rfl))) (fun qgi w0gi hw0gi hR0gi => ?_)
  simp only [Zp, Zq, Zr, Zs]
  obtain ⟨gi, lgi⟩ := qgi; dsimp only
  refine WpG.oneD 5 (some 40) rfl rfl (by kernel_rfl) (fun q : Nat × KL F => Value.slice (some ⟨q.1, 0, none⟩) nj nj) (fun q wz => q.2.length = nj ∧ gi + 1 ≤ q.1 ∧ BlkE wz q.1 (esK q.2)) (fun _ _ _ h hb => ⟨h.1, h.2.1, h.2.2.call hb⟩) (Fresh.call rfl (fun wz hwz => (HJOI.out _ ms wz HMS.out (bl_call hbw (Nat.le_refl _) (hwz.1)) h41').mono fun e w' ⟨q, h1, ⟨h2, h3, h4⟩, h5⟩ => ⟨q, h1, ⟨h2, Nat.le_trans (hwz.2).2.2.lt h3, h4⟩, h5⟩) (fun wz hwz => by go_simp; try (with_reducible rfl))) (fun qgj w0gj hw0gj hR0gj => ?_)
  simp only [Zp, Zq, Zr, Zs]
  obtain ⟨gj, lgj⟩ := qgj; dsimp only
  refine WpG.vD 6 (some 10) ?_ rfl rfl (by kernel_rfl) (fun _ _ _ h => h) rfl (fun wz hwz => ?_) ?_
  rotate_left
  ·go_simp; try (with_reducible rfl)
  simp only [Zp, Zq, Zr, Zs]
  refine WpG.done (by kernel_rfl) (fun w5 hS => ⟨gi, gj, rfl, ?_⟩)
  ·(obtain ⟨⟨h0, h1, h1', h1''⟩, h2, h2', h2''⟩ := hS; first | exact ⟨h0, ⟨_, h1, h1', h1''⟩, ⟨_, h2, by omega, h2''⟩, by omega⟩ | exact ⟨h0, ⟨_, h2, by omega, h2''⟩, ⟨_, h1, h1', h1''⟩, by omega⟩)
 intro gi gj w5 hS
 (try simp only [List.drop_succ_cons]); (try simp only [List.drop_zero]); (try simp only [Nat.reduceSub]); (try simp only [List.take_succ_cons]); (try simp only [List.take_zero])
 obtain ⟨hb5, ⟨v, hvl, hgi, hBI⟩, ⟨j, hjl, hgj, hBJ⟩, hij⟩ := hS
 clear Y0 Y1 Y2 Y3 Y4 Y5 Y6 Y7 Y8 Y9 Y10 Y11 Y12
 replace hbw := bl_call hbw (Nat.le_refl _) hb5
 replace hY := hY.call hb5
 replace hee := hee.call hb5
 have HVL := Lib.hid hvl
 have HJL := Lib.hid hjl
 clear hb5 hvl hjl HVEC HJOI HCIR HAW HXS h40' hij hgi hgj
 obtain ⟨dir, hdir⟩ : ∃ d, dirF y v j = d := ⟨_, rfl⟩
 have HDI := Lib.hid (fun wz b1 b2 => HDIR.out wz gi gj v j HVL.out HJL.out b1 b2)
 have HLD := Lib.hid (fun wz b1 b2 => HLDI.out wz gi gj v j HVL.out HJL.out b1 b2)
 have HDC := Lib.hid (fun wz vz s h2 hz => HDEC.out wz vz v s j HVL.out h2 hz)
 rw [hdir] at HDI HLD HDC
 clear hdir HDIR HLDI HDEC
 obtain ⟨⟨Y0, Y1, Y2, Y3, Y4, Y5⟩, ⟨Y6, Y7, Y8, Y9, Y10, Y11⟩, Y12⟩ := hY.get6
 go_upto_region 8 with (first
  | (go_at_call 18; refine (HDI.out _ hBI hBJ).mono ?_; rintro e w6 ⟨rfl, hb6⟩; replace hbw := bl_call hbw (Nat.le_refl _) hb6; replace hY := hY.call hb6; replace hee := hee.call hb6; replace hBI := hBI.call hb6; replace hBJ := hBJ.call hb6; clear Y0 Y1 Y2 Y3 Y4 Y5 Y6 Y7 Y8 Y9 Y10 Y11 Y12; clear hb6; obtain ⟨⟨Y0, Y1, Y2, Y3, Y4, Y5⟩, ⟨Y6, Y7, Y8, Y9, Y10, Y11⟩, Y12⟩ := hY.get6))
 clear Y0 Y1 Y2 Y3 Y4 Y5 Y6 Y7 Y8 Y9 Y10 Y11 Y12
 have hdd := V2.new w6 (.int .u64 (lo dir)) (.int .u64 (hi dir)) 36
 have hbA : Below w6.heap.size w6 (w6.alloc (.cells #[.int .u64 (lo dir), .int .u64 (hi dir)] 36)) := by repeat (first | exact bA | with_reducible assumption | apply bB)
 replace hbw := bl_call hbw (Nat.le_refl _) hbA
 replace hY := hY.call hbA
 replace hee := hee.call hbA
 replace hBI := hBI.call hbA
 replace hBJ := hBJ.call hbA
 clear hbA
 generalize w6.alloc (.cells #[.int .u64 (lo dir), .int .u64 (hi dir)] 36) = w7 at hbw hY hee hBI hBJ hdd ⊢
 obtain ⟨⟨Y0, Y1, Y2, Y3, Y4, Y5⟩, ⟨Y6, Y7, Y8, Y9, Y10, Y11⟩, Y12⟩ := hY.get6
 refine region_G (n := 6) (m := 7) (f := 6) (by kernel_rfl) (by kernel_rfl) rfl ?_
 refine WpG.vD 0 (some 48) ?_ rfl rfl (by kernel_rfl) (fun _ _ _ h => h) rfl (fun wz hwz => ?_) ?_
 rotate_left
 ·(obtain ⟨hcz, hfz⟩ := bcell (hwz); go_simp; try (with_reducible rfl))
 simp only [Zp, Zq, Zr, Zs]
 refine WpG.vD 1 (some 49) ?_ rfl rfl (by kernel_rfl) (fun _ _ _ h => h) rfl (fun wz hwz => ?_) ?_
 rotate_left
 ·go_simp; try (with_reducible rfl)
 simp only [Zp, Zq, Zr, Zs]
 refine WpG.vD 2 (some 50) ?_ rfl rfl (by kernel_rfl) (fun _ _ _ h => h) rfl (fun wz hwz => ?_) ?_
 rotate_left
 ·(obtain ⟨hcz, hfz⟩ := bcell (hwz); go_simp; try (with_reducible rfl))
 simp only [Zp, Zq, Zr, Zs]
 refine WpG.oneD 3 (some 51) rfl rfl (by kernel_rfl) (fun q : Int × Value × Int => Value.agg #[.int .u8 q.1, q.2.1, .int .i64 q.2.2]) (fun q wz => RepG wz wz.heap.size q.1 q.2.1 q.2.2 gd) (fun _ _ _ h hb => h.later hb) (Fresh.call rfl (fun wz hwz => (HGAD.out wz).mono fun e w' ⟨k, sl, n, he, hr, hb, hn⟩ => ⟨(k, sl, n), he, hr, hb⟩) (fun wz hwz => by go_simp; try (with_reducible rfl))) (fun gq w0g hw0g hR0g => ?_)
 simp only [Zp, Zq, Zr, Zs]
 refine WpG.takeD 4 (some 52) rfl rfl (by kernel_rfl) (fun _ _ _ h => h) (.call rfl (fun wz hwz => HARI.out wz _ gq.1 gq.2.1 gq.2.2 hwz.2) (fun wz hwz => ?_)) ?_
 ·go_simp; try (with_reducible rfl)
 simp only [Zp, Zq, Zr, Zs]
 refine WpG.oneD 5 (some 53) rfl rfl (by kernel_rfl) (fun q : Nat × KL F => Value.slice (some ⟨q.1, 0, none⟩) ar ar) (fun q wz => q.2.length = ar ∧ w7.heap.size ≤ q.1 ∧ BlkE wz q.1 (esK q.2)) (fun _ _ _ h hb => ⟨h.1, h.2.1, h.2.2.call hb⟩) (Fresh.call rfl (fun wz hwz => (HSO3.out _ ms wz HMS.out (bl_call hbw (Nat.le_refl _) (hwz.1)) h41').mono fun e w' ⟨q, h1, ⟨h2, h3, h4⟩, h5⟩ => ⟨q, h1, ⟨h2, Nat.le_trans (hwz.1).size h3, h4⟩, h5⟩) (fun wz hwz => by go_simp; try (with_reducible rfl))) (fun qp w0p hw0p hR0p => ?_)
 simp only [Zp, Zq, Zr, Zs]
 obtain ⟨gs, s⟩ := qp; dsimp only
 refine WpG.done (by kernel_rfl) (fun w8 hS => ?_)
 (try simp only [List.drop_succ_cons]); (try simp only [List.drop_zero]); (try simp only [Nat.reduceSub]); (try simp only [List.take_succ_cons]); (try simp only [List.take_zero])
 obtain ⟨⟨hb8, _⟩, hsl, hgs, hBS⟩ := hS
 try dsimp only at hsl hgs hBS
 clear Y0 Y1 Y2 Y3 Y4 Y5 Y6 Y7 Y8 Y9 Y10 Y11 Y12
 replace hbw := bl_call hbw (Nat.le_refl _) hb8
 replace hY := hY.call hb8
 replace hee := hee.call hb8
 replace hBI := hBI.call hb8
 replace hBJ := hBJ.call hb8
 replace hdd := hdd.call hb8
 have HSL := Lib.hid hsl
 clear hb8 hsl hgs HSO3 HMS h41' HGAD HARI
 have li := hBI.lt
 have lj := hBJ.lt
 obtain ⟨⟨Y0, Y1, Y2, Y3, Y4, Y5⟩, ⟨Y6, Y7, Y8, Y9, Y10, Y11⟩, Y12⟩ := hY.get6
 go_upto_region 10 with (first
  | (go_at_call 38; refine (HPRV.out _ gi gs gj v s j hbw HVL.out HSL.out HJL.out hBI hBS hBJ).mono ?_; rintro e w9 ⟨qp9, rfl, ⟨hqn, hSP⟩, hb9⟩; replace hbw := bl_call hbw (Nat.le_refl _) hb9; replace hY := hY.call hb9; replace hee := hee.call hb9; replace hBI := hBI.call hb9; replace hBJ := hBJ.call hb9; replace hdd := hdd.call hb9; clear Y0 Y1 Y2 Y3 Y4 Y5 Y6 Y7 Y8 Y9 Y10 Y11 Y12; clear hb9; obtain ⟨⟨Y0, Y1, Y2, Y3, Y4, Y5⟩, ⟨Y6, Y7, Y8, Y9, Y10, Y11⟩, Y12⟩ := hY.get6))
 clear Y0 Y1 Y2 Y3 Y4 Y5 Y6 Y7 Y8 Y9 Y10 Y11 Y12
 obtain ⟨gp, cp⟩ := qp9
 dsimp only at hqn hSP ⊢
 have n1 : gi ≠ gp := by omega
 have n2' : gj ≠ gp := by omega
 clear li lj hqn hBS HPRV
 have hPL := HPL9.out s HSL.out (argOf y v j 1)
 have HPLN := Lib.hid hPL
 clear hPL HPL9
 obtain ⟨⟨Y0, Y1, Y2, Y3, Y4, Y5⟩, ⟨Y6, Y7, Y8, Y9, Y10, Y11⟩, Y12⟩ := hY.get6
 obtain ⟨ee0, ee1, ee2, ee3, ee4⟩ := V2.mk hee.c0 hee.c1 hee.f0 hee.f1 hee.lt
 go_upto_region 11 with (first
  | (go_at_call 23; refine (HOUT.out _ hbw).mono ?_; rintro e w10 ⟨rfl, hb10⟩; replace hbw := bl_call hbw (Nat.le_refl _) hb10; replace hY := hY.call hb10; replace hee := hee.call hb10; replace hBI := hBI.call hb10; replace hBJ := hBJ.call hb10; replace hdd := hdd.call hb10; replace hSP := hSP.later hb10; clear Y0 Y1 Y2 Y3 Y4 Y5 Y6 Y7 Y8 Y9 Y10 Y11 Y12 ee0 ee1 ee2 ee3 ee4; clear hb10; obtain ⟨⟨Y0, Y1, Y2, Y3, Y4, Y5⟩, ⟨Y6, Y7, Y8, Y9, Y10, Y11⟩, Y12⟩ := hY.get6; obtain ⟨ee0, ee1, ee2, ee3, ee4⟩ := V2.mk hee.c0 hee.c1 hee.f0 hee.f1 hee.lt))
 clear Y0 Y1 Y2 Y3 Y4 Y5 Y6 Y7 Y8 Y9 Y10 Y11 Y12 ee0 ee1 ee2 ee3 ee4
 have hpt := V2.new w10 (.int .u64 (lo x)) (.int .u64 (hi x)) 36
 have hbA : Below w10.heap.size w10 (w10.alloc (.cells #[.int .u64 (lo x), .int .u64 (hi x)] 36)) := by repeat (first | exact bA | with_reducible assumption | apply bB)
 replace hbw := bl_call hbw (Nat.le_refl _) hbA
 replace hY := hY.call hbA
 replace hee := hee.call hbA
 replace hBI := hBI.call hbA
 replace hBJ := hBJ.call hbA
 replace hdd := hdd.call hbA
 replace hSP := hSP.later hbA
 clear hbA
 generalize w10.alloc (.cells #[.int .u64 (lo x), .int .u64 (hi x)] 36) = w11 at hbw hY hee hBI hBJ hdd hSP hpt ⊢
 clear hee HOUT
 have e0 : (lo dir == 0 && hi dir == 0) = decide (dir = 0) := vK_eq0 dir
 rcases HX.out with hx1 | hx1
 ·have hdx : decide (Fm.kpow x (2 ^ L) = 1) = true := decide_eq_true hx1
  have HQ := Lib.hid (HQN.out hx1)
  clear HQN HQY hx1
  obtain ⟨⟨Y0, Y1, Y2, Y3, Y4, Y5⟩, ⟨Y6, Y7, Y8, Y9, Y10, Y11⟩, Y12⟩ := hY.get6
  obtain ⟨pt0, pt1, pt2, pt3, pt4⟩ := V2.mk hpt.c0 hpt.c1 hpt.f0 hpt.f1 hpt.lt
  go_upto_region 12 with (first
   | (go_at_call 24; refine (HQ.out _ gi gp cp gj v _ j hbw n1 n2' HVL.out HPLN.out HJL.out hBI hSP hBJ).mono ?_; rintro e w12 ⟨rfl, hb12⟩; replace hbw := bl_call hbw (Nat.le_refl _) hb12; replace hY := hY.call hb12; replace hBI := hBI.call hb12; replace hBJ := hBJ.call hb12; replace hdd := hdd.call hb12; replace hSP := hSP.later hb12; clear Y0 Y1 Y2 Y3 Y4 Y5 Y6 Y7 Y8 Y9 Y10 Y11 Y12; clear hb12; obtain ⟨⟨Y0, Y1, Y2, Y3, Y4, Y5⟩, ⟨Y6, Y7, Y8, Y9, Y10, Y11⟩, Y12⟩ := hY.get6))
  clear Y0 Y1 Y2 Y3 Y4 Y5 Y6 Y7 Y8 Y9 Y10 Y11 Y12
  clear pt0 pt1 pt2 pt3 pt4 hpt
  obtain ⟨⟨Y0, Y1, Y2, Y3, Y4, Y5⟩, ⟨Y6, Y7, Y8, Y9, Y10, Y11⟩, Y12⟩ := hY.get6
  obtain ⟨dd0, dd1, dd2, dd3, dd4⟩ := V2.mk hdd.c0 hdd.c1 hdd.f0 hdd.f1 hdd.lt
  refine region_B (n := 13) (m := 14) (f := 13) (by kernel_rfl) (by kernel_rfl) rfl ?_
  refine WpH.vD 0 (some 77) ?_ rfl rfl (by kernel_rfl) (fun _ _ _ h => h) rfl (fun wz hwz => ?_) ?_
  rotate_left
  ·go_simp; try (with_reducible rfl)
  simp only [Zp, Zq, Zr, Zs]
  refine WpH.vD 1 (some 78) ?_ rfl rfl (by kernel_rfl) (fun _ _ _ h => h) rfl (fun wz hwz => ?_) ?_
  rotate_left
  ·go_simp; try (with_reducible rfl)
  simp only [Zp, Zq, Zr, Zs]
  refine WpH.vD 2 (some 79) ?_ rfl rfl (by kernel_rfl) (fun _ _ _ h => h) rfl (fun wz hwz => ?_) ?_
  rotate_left
  ·go_simp; try (with_reducible rfl)
  simp only [Zp, Zq, Zr, Zs]
  refine WpH.vD 3 (some 80) ?_ rfl rfl (by kernel_rfl) (fun _ _ _ h => h) rfl (fun wz hwz => ?_) ?_
  rotate_left
  ·go_simp; try (with_reducible rfl)
  simp only [Zp, Zq, Zr, Zs]
  refine WpH.vD 4 (some 81) ?_ rfl rfl (by kernel_rfl) (fun _ _ _ h => h) rfl (fun wz hwz => ?_) ?_
  rotate_left
  ·go_simp; try (with_reducible rfl)
  simp only [Zp, Zq, Zr, Zs]
  refine WpH.vD 5 (some 82) ?_ rfl rfl (by kernel_rfl) (fun _ _ _ h => h) rfl (fun wz hwz => ?_) ?_
  rotate_left
  ·go_simp; try (with_reducible rfl)
  simp only [Zp, Zq, Zr, Zs]
  refine WpH.vD 6 (some 83) ?_ rfl rfl (by kernel_rfl) (fun _ _ _ h => h) rfl (fun wz hwz => ?_) ?_
  rotate_left
  ·go_simp; try (with_reducible rfl)
  simp only [Zp, Zq, Zr, Zs]
  refine WpH.vD 7 (some 84) ?_ rfl rfl (by kernel_rfl) (fun _ _ _ h => h) rfl (fun wz hwz => ?_) ?_
  rotate_left
  ·(obtain ⟨hcz, hfz⟩ := bcell hwz; go_simp; try (with_reducible rfl))
  simp only [Zp, Zq, Zr, Zs]
  refine WpH.vD 8 (some 85) ?_ rfl rfl (by kernel_rfl) (fun _ _ _ h => h) rfl (fun wz hwz => ?_) ?_
  rotate_left
  ·(obtain ⟨hcz, hfz⟩ := bcell hwz; go_simp; try (with_reducible rfl))
  simp only [Zp, Zq, Zr, Zs]
  refine WpH.vD 9 (some 86) ?_ rfl rfl (by kernel_rfl) (fun _ _ _ h => h) rfl (fun wz hwz => ?_) ?_
  rotate_left
  ·go_simp; try (with_reducible rfl)
  simp only [Zp, Zq, Zr, Zs]
  refine WpH.vD 10 (some 87) ?_ rfl rfl (by kernel_rfl) (fun _ _ _ h => h) rfl (fun wz hwz => ?_) ?_
  rotate_left
  ·go_simp; try (with_reducible rfl)
  simp only [Zp, Zq, Zr, Zs]
  refine WpH.takeD 11 (some 88) rfl rfl (by kernel_rfl) (fun _ _ _ h => h) (.call rfl (fun wz hwz => HLD.out wz (hBI.call hwz) (hBJ.call hwz)) (fun wz hwz => ?_)) ?_
  ·go_simp; try (with_reducible rfl)
  simp only [Zp, Zq, Zr, Zs]
  refine WpH.vD 12 (some 89) ?_ rfl rfl (by kernel_rfl) (fun _ _ _ h => h) rfl (fun wz hwz => ?_) ?_
  rotate_left
  ·go_simp; try (with_reducible rfl)
  simp only [Zp, Zq, Zr, Zs]
  refine WpH.doneB (by kernel_rfl) (fun w13 hw13 => ?_)
  (try simp only [List.drop_succ_cons]); (try simp only [List.drop_zero]); (try simp only [Nat.reduceSub]); (try simp only [List.take_succ_cons]); (try simp only [List.take_zero])
  clear Y0 Y1 Y2 Y3 Y4 Y5 Y6 Y7 Y8 Y9 Y10 Y11 Y12 dd0 dd1 dd2 dd3 dd4
  replace hbw := bl_call hbw (Nat.le_refl _) hw13
  go_wp2_with fail
  go_ret
  exact ⟨rfl, hbw⟩
 ·have hdx : decide (Fm.kpow x (2 ^ L) = 1) = false := decide_eq_false hx1
  have HQ := Lib.hid (HQY.out hx1)
  clear HQN HQY hx1
  obtain ⟨⟨Y0, Y1, Y2, Y3, Y4, Y5⟩, ⟨Y6, Y7, Y8, Y9, Y10, Y11⟩, Y12⟩ := hY.get6
  obtain ⟨pt0, pt1, pt2, pt3, pt4⟩ := V2.mk hpt.c0 hpt.c1 hpt.f0 hpt.f1 hpt.lt
  go_upto_region 12 with (first
   | (go_at_call 24; refine (HQ.out _ gi gp cp gj v _ j hbw n1 n2' HVL.out HPLN.out HJL.out hBI hSP hBJ).mono ?_; rintro e w12 ⟨qz, rfl, hZ, hb12⟩; replace hbw := bl_call hbw (Nat.le_refl _) hb12; replace hY := hY.call hb12; replace hBI := hBI.call hb12; replace hBJ := hBJ.call hb12; replace hdd := hdd.call hb12; replace hSP := hSP.later hb12; clear Y0 Y1 Y2 Y3 Y4 Y5 Y6 Y7 Y8 Y9 Y10 Y11 Y12; clear hb12; obtain ⟨⟨Y0, Y1, Y2, Y3, Y4, Y5⟩, ⟨Y6, Y7, Y8, Y9, Y10, Y11⟩, Y12⟩ := hY.get6))
  clear Y0 Y1 Y2 Y3 Y4 Y5 Y6 Y7 Y8 Y9 Y10 Y11 Y12
  clear pt0 pt1 pt2 pt3 pt4 hpt hSP
  obtain ⟨za, zc⟩ := qz
  try dsimp only at hZ ⊢
  obtain ⟨⟨Y0, Y1, Y2, Y3, Y4, Y5⟩, ⟨Y6, Y7, Y8, Y9, Y10, Y11⟩, Y12⟩ := hY.get6
  obtain ⟨dd0, dd1, dd2, dd3, dd4⟩ := V2.mk hdd.c0 hdd.c1 hdd.f0 hdd.f1 hdd.lt
  refine region_B (n := 13) (m := 14) (f := 13) (by kernel_rfl) (by kernel_rfl) rfl ?_
  refine WpH.vD 0 (some 77) ?_ rfl rfl (by kernel_rfl) (fun _ _ _ h => h) rfl (fun wz hwz => ?_) ?_
  rotate_left
  ·go_simp; try (with_reducible rfl)
  simp only [Zp, Zq, Zr, Zs]
  refine WpH.vD 1 (some 78) ?_ rfl rfl (by kernel_rfl) (fun _ _ _ h => h) rfl (fun wz hwz => ?_) ?_
  rotate_left
  ·go_simp; try (with_reducible rfl)
  simp only [Zp, Zq, Zr, Zs]
  refine WpH.vD 2 (some 79) ?_ rfl rfl (by kernel_rfl) (fun _ _ _ h => h) rfl (fun wz hwz => ?_) ?_
  rotate_left
  ·go_simp; try (with_reducible rfl)
  simp only [Zp, Zq, Zr, Zs]
  refine WpH.vD 3 (some 80) ?_ rfl rfl (by kernel_rfl) (fun _ _ _ h => h) rfl (fun wz hwz => ?_) ?_
  rotate_left
  ·go_simp; try (with_reducible rfl)
  simp only [Zp, Zq, Zr, Zs]
  refine WpH.vD 4 (some 81) ?_ rfl rfl (by kernel_rfl) (fun _ _ _ h => h) rfl (fun wz hwz => ?_) ?_
  rotate_left
  ·go_simp; try (with_reducible rfl)
  simp only [Zp, Zq, Zr, Zs]
  refine WpH.vD 5 (some 82) ?_ rfl rfl (by kernel_rfl) (fun _ _ _ h => h) rfl (fun wz hwz => ?_) ?_
  rotate_left
  ·go_simp; try (with_reducible rfl)
  simp only [Zp, Zq, Zr, Zs]
  refine WpH.vD 6 (some 83) ?_ rfl rfl (by kernel_rfl) (fun _ _ _ h => h) rfl (fun wz hwz => ?_) ?_
  rotate_left
  ·go_simp; try (with_reducible rfl)
  simp only [Zp, Zq, Zr, Zs]
  refine WpH.vD 7 (some 84) ?_ rfl rfl (by kernel_rfl) (fun _ _ _ h => h) rfl (fun wz hwz => ?_) ?_
  rotate_left
  ·(obtain ⟨hcz, hfz⟩ := bcell hwz; go_simp; try (with_reducible rfl))
  simp only [Zp, Zq, Zr, Zs]
  refine WpH.vD 8 (some 85) ?_ rfl rfl (by kernel_rfl) (fun _ _ _ h => h) rfl (fun wz hwz => ?_) ?_
  rotate_left
  ·(obtain ⟨hcz, hfz⟩ := bcell hwz; go_simp; try (with_reducible rfl))
  simp only [Zp, Zq, Zr, Zs]
  refine WpH.vD 9 (some 86) ?_ rfl rfl (by kernel_rfl) (fun _ _ _ h => h) rfl (fun wz hwz => ?_) ?_
  rotate_left
  ·go_simp; try (with_reducible rfl)
  simp only [Zp, Zq, Zr, Zs]
  refine WpH.vD 10 (some 87) ?_ rfl rfl (by kernel_rfl) (fun _ _ _ h => h) rfl (fun wz hwz => ?_) ?_
  rotate_left
  ·go_simp; try (with_reducible rfl)
  simp only [Zp, Zq, Zr, Zs]
  refine WpH.takeD 11 (some 88) rfl rfl (by kernel_rfl) (fun _ _ _ h => h) (.call rfl (fun wz hwz => HLD.out wz (hBI.call hwz) (hBJ.call hwz)) (fun wz hwz => ?_)) ?_
  ·go_simp; try (with_reducible rfl)
  simp only [Zp, Zq, Zr, Zs]
  refine WpH.vD 12 (some 89) ?_ rfl rfl (by kernel_rfl) (fun _ _ _ h => h) rfl (fun wz hwz => ?_) ?_
  rotate_left
  ·go_simp; try (with_reducible rfl)
  simp only [Zp, Zq, Zr, Zs]
  refine WpH.doneB (by kernel_rfl) (fun w13 hw13 => ?_)
  (try simp only [List.drop_succ_cons]); (try simp only [List.drop_zero]); (try simp only [Nat.reduceSub]); (try simp only [List.take_succ_cons]); (try simp only [List.take_zero])
  clear Y0 Y1 Y2 Y3 Y4 Y5 Y6 Y7 Y8 Y9 Y10 Y11 Y12 dd0 dd1 dd2 dd3 dd4
  replace hbw := bl_call hbw (Nat.le_refl _) hw13
  replace hY := hY.call hw13
  replace hdd := hdd.call hw13
  replace hZ := hZ.later hw13
  clear hw13 hBI hBJ
  obtain ⟨⟨Y0, Y1, Y2, Y3, Y4, Y5⟩, ⟨Y6, Y7, Y8, Y9, Y10, Y11⟩, Y12⟩ := hY.get6
  go_upto_region 17 with (first
   | (go_at_call 36; refine (HDC.out _ _ s HSL.out hZ).mono ?_; rintro e w14 ⟨rfl, hb14⟩; replace hbw := bl_call hbw (Nat.le_refl _) hb14; replace hY := hY.call hb14; replace hdd := hdd.call hb14; clear Y0 Y1 Y2 Y3 Y4 Y5 Y6 Y7 Y8 Y9 Y10 Y11 Y12; clear hb14; obtain ⟨⟨Y0, Y1, Y2, Y3, Y4, Y5⟩, ⟨Y6, Y7, Y8, Y9, Y10, Y11⟩, Y12⟩ := hY.get6))
  clear Y0 Y1 Y2 Y3 Y4 Y5 Y6 Y7 Y8 Y9 Y10 Y11 Y12
  obtain ⟨dd0, dd1, dd2, dd3, dd4⟩ := V2.mk hdd.c0 hdd.c1 hdd.f0 hdd.f1 hdd.lt
  go_wp2_with fail
  go_ret
  exact ⟨rfl, hbw⟩

end Go.Proofs.YtfbfbijkkbflkaaGreatDoor
