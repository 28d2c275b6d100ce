/-
 RefE, EncL, PfRt: for ProofRight.
-/
import Derived.Test.YtfbfbijkkbflkaaGreatDoorRae
namespace Go.Proofs.YtfbfbijkkbflkaaGreatDoor
open Go.RowKit Fm
set_option linter.unusedVariables false
set_option maxRecDepth 100000

theorem bitsL_le (x : Nat) : ∀ q e, e ∈ bitsL x q → e ≤ 1
 | 0, e, h => by cases h
 | q + 1, e, h => by
  rw [bitsL] at h
  rcases List.mem_append.1 h with h | h
  ·exact bitsL_le x q e h
  ·rw [List.mem_singleton.1 h]
   omega
theorem encNums_le (b : Nat) (ms : List Nat) : ∀ e, e ∈ encNums b ms → e ≤ 1 := by
 intro e he
 unfold encNums at he
 obtain ⟨x, _, h⟩ := List.mem_flatMap.1 he
 exact bitsL_le x b e h
theorem encOne_le (l n : Nat) : ∀ e, e ∈ encOne l n → e ≤ 1 := by
 intro e he
 unfold encOne at he
 rcases List.mem_or_eq_of_mem_set he with h | h
 ·rw [(List.mem_replicate.1 h).2]
  omega
 ·omega
section
variable {f : Nat}

end

end Go.Proofs.YtfbfbijkkbflkaaGreatDoor

namespace Go.Proofs.YtfbfbijkkbflkaaGreatDoor
open Go.RowKit Fm
set_option linter.unusedVariables false
set_option maxRecDepth 100000

theorem law10_Measure {f : Nat} (hf : IsF f) (y : CK) (hy : y.ok) (vl : Value) (xs : List Int) (w : World) (hl : SlU w w.heap.size vl xs) (hl100 : xs.length ≤ 1000000) :
  Calls Tryz.prog 47 #[y.val f, vl] w (RetM y w) := by
 cases y with
 | count => exact law10_Measure_count hf hy vl xs w hl hl100
 | sum b => exact law10_Measure_sum hf b hy vl xs w hl hl100
 | vec b l c => exact law10_Measure_vec hf b l c hy vl xs w hl hl100
 | hist l c => exact law10_Measure_hist hf l c hy vl xs w hl hl100
 | multi l m c => exact law10_Measure_multi hf l m c hy vl xs w hl hl100

section
variable {f : Nat} (hf : IsF f)
include hf

end

theorem enc_le {y : CK} {ms : List Nat} (h : okEnc y ms) : ∀ e, e ∈ encL y ms → e ≤ 1 := by
 intro e he
 cases y with
 | count => exact h e he
 | sum b => exact encNums_le b ms e he
 | vec b l c => exact encNums_le b ms e he
 | hist l c => exact encOne_le l _ e he
 | multi l m c =>
  rcases List.mem_append.1 (show e ∈ ms ++ bitsL (ms.sum + offN m) (Lib.bitLen m) from he) with h1 | h1
  ·exact h.1 e h1
  ·exact bitsL_le _ _ e h1

theorem enc_length {y : CK} {ms : List Nat} (hl : ms.length = y.meas) : (encL y ms).length = y.nin := by
 cases y with
 | count => exact hl
 | sum b => exact (encNums_length b ms).trans (by rw [hl]; exact Nat.one_mul b)
 | vec b l c => exact (encNums_length b ms).trans (by rw [hl]; rfl)
 | hist l c => exact encOne_length l _
 | multi l m c =>
  show (ms ++ bitsL (ms.sum + offN m) (Lib.bitLen m)).length = l + Lib.bitLen m
  rw [List.length_append, bitsL_length, hl]
  rfl

theorem ksum_nK {f : Nat} (l : List Nat) : ksum (l.map (nK f)) = nK f l.sum := by
 have h : ∀ (l : List Nat) (s : Nat), (l.map (nK f)).foldl (· + ·) (nK f s) = nK f (s + l.sum) := by
  intro l
  induction l with
  | nil => intro s; rfl
  | cons a l ih =>
   intro s
   rw [List.map_cons, List.foldl_cons, ← nK_add, ih, List.sum_cons, Nat.add_assoc]
 have := h l 0
 rw [nK_zero, Nat.zero_add] at this
 exact this

theorem nK_mul (f m n : Nat) : nK f (m * n) = nK f m * nK f n := by rw [nK_kI, nK_kI, nK_kI, Int.natCast_mul, kI_mul]

theorem knum_bits (f n : Nat) : ∀ q, knum ((bitsL n q).map (nK f)) = nK f (n % 2 ^ q)
 | 0 => by
  rw [Nat.pow_zero, Nat.mod_one, nK_zero]
  rfl
 | q + 1 => by
  have hq : (bitsL n q).length = q := bitsL_length n q
  have h1 : ((bitsL n (q + 1)).map (nK f))[q]? = some (nK f (n / 2 ^ q % 2)) := by
   rw [List.getElem?_map, bitsL, List.getElem?_append_right (by omega), hq, Nat.sub_self]
   rfl
  have h2 := knum_take _ q _ h1
  have h3 : ((bitsL n (q + 1)).map (nK f)).take (q + 1) = (bitsL n (q + 1)).map (nK f) := List.take_of_length_le (by rw [List.length_map, bitsL_length]; exact Nat.le_refl _)
  have h4 : ((bitsL n (q + 1)).map (nK f)).take q = (bitsL n q).map (nK f) := by
   rw [← List.map_take, bitsL, List.take_append_of_le_length (by omega), List.take_of_length_le (by omega)]
  rw [h3, h4, knum_bits f n q, kpow_nK, ← nK_mul, ← nK_add] at h2
  rw [h2, Nat.mod_pow_succ]

theorem sum_zeros : ∀ l : Nat, (List.replicate l 0).sum = 0
 | 0 => rfl
 | l + 1 => by rw [List.replicate_succ, List.sum_cons, sum_zeros l]
theorem sum_one : ∀ (l n : Nat), n < l → ((List.replicate l 0).set n 1).sum = 1
 | 0, n, h => by omega
 | l + 1, 0, h => by
  rw [List.replicate_succ, List.set_cons_zero, List.sum_cons, sum_zeros]
 | l + 1, n + 1, h => by
  rw [List.replicate_succ, List.set_cons_succ, List.sum_cons, sum_one l n (by omega)]

section
variable {f : Nat} (hf : IsF f)
include hf

omit hf in
theorem enc_okVec (y : CK) (hy : y.ok) {ms : List Nat} (hl : ms.length = y.meas) (h : okEnc y ms) : okVec y ((encL y ms).map (nK f)) := by
 refine ⟨fun x hx => ?_, ?_⟩
 ·obtain ⟨n, hn, rfl⟩ := List.mem_map.1 hx
  have h1 := enc_le h n hn
  rcases (by omega : n = 0 ∨ n = 1) with rfl | rfl
  ·exact .inl (nK_zero f)
  ·exact .inr (nK_one f)
 ·cases y with
  | count => trivial
  | sum b => trivial
  | vec b l c => trivial
  | hist l c =>
   show ksum ((encOne l (ms.headD 0)).map (nK f)) = 1
   rw [ksum_nK, show (encOne l (ms.headD 0)).sum = 1 from sum_one l _ h, nK_one]
  | multi l m c =>
   have hlen : ms.length = l := hl
   have hm : m ≤ 64 := by have := hy.1.2; have := hy.2.1.2; omega
   have hb := bitLen_small m hm
   show ksum (((ms ++ bitsL (ms.sum + offN m) (Lib.bitLen m)).map (nK f)).take l) + nK f (offN m) = knum (((ms ++ bitsL (ms.sum + offN m) (Lib.bitLen m)).map (nK f)).drop l)
   rw [← List.map_take, ← List.map_drop, List.take_append_of_le_length (by omega), List.take_of_length_le (by omega), List.drop_append_of_le_length (by omega), List.drop_of_length_le (by omega), List.nil_append, ksum_nK, knum_bits, ← nK_add,
    Nat.mod_eq_of_lt]
   have h2 : ms.sum ≤ m := h.2
   have h3 := hb.2.1
   show ms.sum + (2 ^ Lib.bitLen m - 1 - m) < 2 ^ Lib.bitLen m
   omega

/-! ### what both say of a measure -/
end

end Go.Proofs.YtfbfbijkkbflkaaGreatDoor

namespace Go.Proofs.YtfbfbijkkbflkaaGreatDoor
open Go.RowKit Fm
set_option linter.unusedVariables false
set_option maxRecDepth 100000

/-! ### a gadget, some elements and joint randomness come up -/
def PrT {f : Nat} (w0 : World) (gd : Gad f) (o1 : Option (Int × Value × Int)) (o2 o3 : Option (Nat × KL f)) (wz : World) : Prop := Below w0.heap.size w0 wz ∧ ∀ q, o1 = some q → RepG wz wz.heap.size q.1 q.2.1 q.2.2 gd
structure PrK {f : Nat} (w0 : World) (gd : Gad f) (na nb : Nat) (o1 : Option (Int × Value × Int)) (o2 o3 : Option (Nat × KL f)) (wz : World) : Prop where
 t : PrT w0 gd o1 o2 o3 wz
 b : ∀ q, o2 = some q → q.2.length = na ∧ w0.heap.size ≤ q.1 ∧ BlkE wz q.1 (esK q.2)
 c : ∀ q, o3 = some q → q.2.length = nb ∧ w0.heap.size ≤ q.1 ∧ BlkE wz q.1 (esK q.2)
theorem PrT.clo {f : Nat} {w0 : World} {gd : Gad f} {o1 : Option (Int × Value × Int)} {o2 o3 : Option (Nat × KL f)} : Clo (PrT w0 gd o1 o2 o3) := fun _ _ h hb => ⟨bl_call h.1 (Nat.le_refl _) hb, fun q e => (h.2 q e).later hb⟩
theorem PrK.clo {f : Nat} {w0 : World} {gd : Gad f} {na nb : Nat} {o1 : Option (Int × Value × Int)} {o2 o3 : Option (Nat × KL f)} : Clo (PrK w0 gd na nb o1 o2 o3) := fun _ _ h hb =>
 ⟨PrT.clo _ _ h.t hb, fun q e => ⟨(h.b q e).1, (h.b q e).2.1, (h.b q e).2.2.call hb⟩, fun q e => ⟨(h.c q e).1, (h.c q e).2.1, (h.c q e).2.2.call hb⟩⟩
theorem PrK.start {f : Nat} (w0 : World) (gd : Gad f) (na nb : Nat) : PrK w0 gd na nb none none none w0.drew :=
 ⟨⟨(Below.refl _ _).drew, fun _ e => (by cases e)⟩, fun _ e => (by cases e), fun _ e => (by cases e)⟩
theorem PrK.mk1 {f : Nat} {w0 w w' : World} {gd : Gad f} {na nb : Nat} {o2 o3 : Option (Nat × KL f)} (h : PrK w0 gd na nb none o2 o3 w) (q : Int × Value × Int) (hq : RepG w' w'.heap.size q.1 q.2.1 q.2.2 gd) (hb : Below w.heap.size w w') : PrK w0 gd na nb (some q) o2 o3 w' :=
 ⟨⟨bl_call h.t.1 (Nat.le_refl _) hb, fun q' e => by injection e with e; subst e; exact hq⟩, fun q e => ⟨(h.b q e).1, (h.b q e).2.1, (h.b q e).2.2.call hb⟩, fun q e => ⟨(h.c q e).1, (h.c q e).2.1, (h.c q e).2.2.call hb⟩⟩
theorem PrK.mk2 {f : Nat} {w0 w w' : World} {gd : Gad f} {na nb : Nat} {o1 : Option (Int × Value × Int)} {o3 : Option (Nat × KL f)} (h : PrK w0 gd na nb o1 none o3 w) (q : Nat × KL f) (h1 : q.2.length = na) (h2 : w.heap.size ≤ q.1) (h3 : BlkE w' q.1 (esK q.2)) (hb : Below w.heap.size w w') : PrK w0 gd na nb o1 (some q) o3 w' :=
 ⟨PrT.clo _ _ h.t hb, fun q' e => by injection e with e; subst e; exact ⟨h1, Nat.le_trans h.t.1.size h2, h3⟩, fun q e => ⟨(h.c q e).1, (h.c q e).2.1, (h.c q e).2.2.call hb⟩⟩
theorem PrK.mk3 {f : Nat} {w0 w w' : World} {gd : Gad f} {na nb : Nat} {o1 : Option (Int × Value × Int)} {o2 : Option (Nat × KL f)} (h : PrK w0 gd na nb o1 o2 none w) (q : Nat × KL f) (h1 : q.2.length = nb) (h2 : w.heap.size ≤ q.1) (h3 : BlkE w' q.1 (esK q.2)) (hb : Below w.heap.size w w') : PrK w0 gd na nb o1 o2 (some q) w' :=
 ⟨PrT.clo _ _ h.t hb, fun q e => ⟨(h.b q e).1, (h.b q e).2.1, (h.b q e).2.2.call hb⟩, fun q' e => by injection e with e; subst e; exact ⟨h1, Nat.le_trans h.t.1.size h2, h3⟩⟩
theorem SlK.takeM {f : Nat} {w : World} {B : Nat} {A : Option Addr} {n c k : Nat} {l : KL f} (h : SlK w B (.slice A n c) l) (hl : l.length = n) (hk : k ≤ n) : SlK w B (.slice A k c) (l.take k) := by
 subst hl
 exact h.takeN hk _ rfl
theorem circuit_EncodeN {f : Nat} (hf : IsF f) (y : CK) (hy : y.ok) (hcalls : ¬ 511 < y.calls) (vm : Value) (ms : List Nat) (hl : ms.length = y.meas) (hok : okEnc y ms) (w : World) (hm : SlU w w.heap.size vm (natsI ms)) :
  Calls Tryz.prog 46 #[y.val f, vm] w fun e w' => ∃ q : Nat × Nat, e = .returned (.tuple #[.slice (some ⟨q.1, 0, none⟩) y.nin q.2, .int .i64 0]) ∧ (w.heap.size ≤ q.1 ∧ SlK w' w'.heap.size (.slice (some ⟨q.1, 0, none⟩) y.nin q.2) ((encL y ms).map (nK f))) ∧ Below w.heap.size w w' := by
 refine (circuit_Encode hf y hy hcalls vm ms w hm hl).mono ?_
 rintro e w' (⟨_, v, rfl, hown, hb⟩ | ⟨h1, _⟩)
 ·rw [List.length_map, enc_length hl] at hown
  obtain ⟨g, cp, rfl⟩ := own_sliceP hown (CK.nin_pos hy)
  exact ⟨(g, cp), rfl, ⟨(hown.lt g rfl).1, own_sl (by rw [List.length_map, enc_length hl]) hown⟩, hb⟩
 ·exact absurd hok h1

set_option maxHeartbeats 16000000 in
theorem walk_ProofRight (k f b l m c : Int) (vm vl : Value) (us : List Int) (xs : List E) (e0 e1 kk : Int) (w : World) (hT : TabW w) (hk : 0 ≤ k ∧ k ≤ 255) (hf : 0 ≤ f ∧ f ≤ 255) (hb : 0 ≤ b ∧ b ≤ 255) (hl : 0 ≤ l ∧ l ≤ 255) (hm : 0 ≤ m ∧ m ≤ 255) (hc : 0 ≤ c ∧ c ≤ 255)
  (hms : SlU w w.heap.size vm us) (hxs : SlE w w.heap.size vl xs) (he0 : 0 ≤ e0 ∧ e0 ≤ 18446744073709551615) (he1 : 0 ≤ e1 ∧ e1 ≤ 18446744073709551615) (hkk : 0 ≤ kk ∧ kk ≤ 255) :
  Calls Tryz.prog 9 #[.agg #[.int .u8 k, .int .u8 f, .int .u8 b, .int .u8 l, .int .u8 m, .int .u8 c], vm, vl, .agg #[.int .u64 e0, .int .u64 e1], .int .u8 kk] w fun e w' => e = .returned (.bool true) ∧ Below w.heap.size w w' := by
 obtain ⟨F, y, hF, hy, hCIR⟩ := law10_Circuit k f b l m c hk.1 hk.2 hf.1 hf.2 hb.1 hb.2 hl.1 hl.2 hm.1 hm.2 hc.1 hc.2
 have HAW : Hid (∀ wz, Below w.heap.size w wz → Calls Tryz.prog 10 #[] wz fun e w' => e = .returned (.bool true) ∧ Below wz.heap.size wz w') := fun wz h => law11_Awake wz (hT.call h)
 have HCIR := Lib.hid hCIR
 have hok := hy.ok
 have hcl : y.calls ≤ 511 := by have := hy.calls; omega
 have hcl2 := CK.calls_le hok
 have hnin := hy.nin
 have hal := CK.arity_le hok
 have hni1 := CK.nin_pos hok
 have hat : y.arity ≤ y.proof := by show y.arity ≤ y.arity + 2 * (nextP (y.calls + 1) - 1) + 1; omega
 have hga := gad_arity F y
 have hjn : y.joint ≤ 512 := by cases y <;> simp only [CK.joint] <;> (try simp only [CK.calls] at hcl ⊢) <;> omega
 obtain ⟨L, hL, hN, hcN⟩ := small_log hy
 have hpn : y.proof ≤ 2000 := by
  have h2 : (2 : Nat) ^ L ≤ 2 ^ 8 := Nat.pow_le_pow_right (by omega) hL
  have h3 : (2 : Nat) ^ 8 = 256 := by decide
  show y.arity + 2 * (nextP (y.calls + 1) - 1) + 1 ≤ _
  rw [hN]
  omega
 have HJOI : Hid (∀ (vx : Value) (es : List E) wz, SlE w w.heap.size vx es → Below w.heap.size w wz → es.length ≤ 60 → Calls Tryz.prog 19 #[y.val F, vx, .int .i64 1] wz fun e w' => ∃ q : Nat × KL F, e = .returned (.slice (some ⟨q.1, 0, none⟩) y.joint y.joint) ∧ (q.2.length = y.joint ∧ wz.heap.size ≤ q.1 ∧ BlkE w' q.1 (esK q.2)) ∧ Below wz.heap.size wz w') :=
  fun vx es wz hs hb h60 => (law10_Joint hF y hok hcl vx es wz ((hs.below hb).mono hb.size) h60).mono fun e w' ⟨g, zs, h1, h2, h3, h4, h5⟩ => ⟨(g, zs), h2, ⟨h1, h4, h3⟩, h5⟩
 have HGAD : Hid (∀ wz, Calls Tryz.prog 27 #[y.val F] wz (RetG2 (y.gad F) wz)) := fun wz => circuit_Gadget2 hF y hok wz
 have HARI : Hid (∀ wz (B : Nat) (k : Int) (sl : Value) (n : Int), RepG wz B k sl n (y.gad F) → Calls Tryz.prog 28 #[.agg #[.int .u8 k, sl, .int .i64 n]] wz fun e w' => e = .returned (.int .i64 (y.arity : Nat)) ∧ Below wz.heap.size wz w') := fun wz B k sl n h => by
  have h2 := gadget_Arity wz B (y.gad F) k sl n h
  rwa [hga] at h2
 have HSO3 : Hid (∀ (vx : Value) (es : List E) wz, SlE w w.heap.size vx es → Below w.heap.size w wz → es.length ≤ 60 → Calls Tryz.prog 20 #[y.val F, vx, .int .i64 (y.arity : Nat), .int .i64 3] wz fun e w' => ∃ q : Nat × KL F, e = .returned (.slice (some ⟨q.1, 0, none⟩) y.arity y.arity) ∧ (q.2.length = y.arity ∧ wz.heap.size ≤ q.1 ∧ BlkE w' q.1 (esK q.2)) ∧ Below wz.heap.size wz w') :=
  fun vx es wz hs hb h60 => (law11_some hF y y.arity 3 (by omega) (by omega) vx es wz ((hs.below hb).mono hb.size) h60).mono fun e w' ⟨g, zs, h1, h2, h3, h4, h5⟩ => ⟨(g, zs), h2, ⟨h1, h4, h3⟩, h5⟩
 have HPRV : Hid (∀ wz (gv cv gs gj : Nat) (v s j : KL F), Below w.heap.size w wz → v.length = y.nin → s.length = y.arity → j.length = y.joint → SlK wz wz.heap.size (.slice (some ⟨gv, 0, none⟩) y.nin cv) v → BlkE wz gs (esK s) → BlkE wz gj (esK j) →
   Calls Tryz.prog 38 #[y.val F, .slice (some ⟨gv, 0, none⟩) y.nin cv, .slice (some ⟨gs, 0, none⟩) y.arity y.arity, .slice (some ⟨gj, 0, none⟩) y.joint y.joint] wz fun e w' => ∃ q : Nat × Nat, e = .returned (.tuple #[.slice (some ⟨q.1, 0, none⟩) y.proof q.2, .int .i64 0]) ∧ (wz.heap.size ≤ q.1 ∧ SlK w' w'.heap.size (.slice (some ⟨q.1, 0, none⟩) y.proof q.2) (prvL L (y.gad F) s (argOf y v j 1) y.calls y.proof)) ∧ Below wz.heap.size wz w') := fun wz gv cv gs gj v s j hb h1 h2 h3 b1 b2 b3 => by
  have h := proof_ProveN hF y hok (by omega) L hL hN v s j h1 h3 h2 _ _ _ wz (hT.call hb) b1 (b2.slM h2 (by omega)) (b3.slM h3 (by omega))
  refine h.mono ?_
  rintro e w' ⟨q, he, hn, hs, hb'⟩
  rw [prvL_length y L hN s h2] at he hs
  exact ⟨q, he, ⟨hn, hs⟩, hb'⟩
 obtain ⟨x, hx⟩ : ∃ x, kL F e0 e1 = x := ⟨_, rfl⟩
 have HOUT : Hid (∀ wz, Below w.heap.size w wz → Calls Tryz.prog 23 #[y.val F, .agg #[.int .u64 e0, .int .u64 e1]] wz fun e w' => e = .returned (.tuple #[vK x, .bool (!decide (Fm.kpow x (2 ^ L) = 1))]) ∧ Below wz.heap.size wz w') := fun wz h => by
  have h2 := law11_outside hF y hok hcl L (by omega) hN e0 e1 he0.1 he0.2 he1.1 he1.2 wz (hT.call h)
  rwa [any_pow (by omega), hx] at h2
 have hpl : ∀ s : KL F, s.length = y.arity → ∀ a, (prvL L (y.gad F) s a y.calls y.proof).length = y.proof := fun s h a => prvL_length y L hN s h a
 have HQN : Hid (∀ (x : Fin (Pm F)), Fm.kpow x (2 ^ L) = 1 → ∀ (wz : World) (gv cv gp cp gj : Nat) (v p j : KL F), Below w.heap.size w wz → gv ≠ gp → gj ≠ gp → v.length = y.nin → p.length = y.proof → j.length = y.joint → SlK wz wz.heap.size (.slice (some ⟨gv, 0, none⟩) y.nin cv) v → SlK wz wz.heap.size (.slice (some ⟨gp, 0, none⟩) y.proof cp) p → BlkE wz gj (esK j) →
   Calls Tryz.prog 24 #[y.val F, .slice (some ⟨gv, 0, none⟩) y.nin cv, .slice (some ⟨gp, 0, none⟩) y.proof cp, .slice (some ⟨gj, 0, none⟩) y.joint y.joint, .agg #[.int .u64 (lo x), .int .u64 (hi x)], .int .i64 1] wz (RetE9 12 wz)) := fun x h1 wz gv cv gp cp gj v p j hb n1 n2 hv hp hj bv bp bj => by
  have h := proof_Query hF y hok (by omega) L hL hN 1 (.inl rfl) v p j hv hj hp x (.slice (some ⟨gv, 0, none⟩) y.nin cv) (.slice (some ⟨gj, 0, none⟩) y.joint y.joint) gp 0 cp wz (hT.call hb)
   (SlX.ofK bv n1) (SlX.of hj (Nat.le_refl _) (by omega) bj.lt n2 bj.rowE) bp
  refine h.mono ?_
  rintro e w' (⟨_, h⟩ | ⟨h, _⟩)
  ·exact h
  ·exact absurd h1 h
 have HQY : Hid (Fm.kpow x (2 ^ L) ≠ 1 → ∀ (wz : World) (gv cv gp cp gj : Nat) (v p j : KL F), Below w.heap.size w wz → gv ≠ gp → gj ≠ gp → v.length = y.nin → p.length = y.proof → j.length = y.joint → SlK wz wz.heap.size (.slice (some ⟨gv, 0, none⟩) y.nin cv) v → SlK wz wz.heap.size (.slice (some ⟨gp, 0, none⟩) y.proof cp) p → BlkE wz gj (esK j) →
   Calls Tryz.prog 24 #[y.val F, .slice (some ⟨gv, 0, none⟩) y.nin cv, .slice (some ⟨gp, 0, none⟩) y.proof cp, .slice (some ⟨gj, 0, none⟩) y.joint y.joint, .agg #[.int .u64 (lo x), .int .u64 (hi x)], .int .i64 1] wz fun e w' =>
    ∃ q : Option Addr × Nat, e = .returned (.tuple #[.slice q.1 (y.arity + 2) q.2, .int .i64 0]) ∧ SlK w' w'.heap.size (.slice q.1 (y.arity + 2) q.2) (qryL y L v j 1 p x) ∧ Below wz.heap.size wz w') := fun h1 wz gv cv gp cp gj v p j hb n1 n2 hv hp hj bv bp bj => by
  have h := proof_Query hF y hok (by omega) L hL hN 1 (.inl rfl) v p j hv hj hp x (.slice (some ⟨gv, 0, none⟩) y.nin cv) (.slice (some ⟨gj, 0, none⟩) y.joint y.joint) gp 0 cp wz (hT.call hb)
   (SlX.ofK bv n1) (SlX.of hj (Nat.le_refl _) (by omega) bj.lt n2 bj.rowE) bp
  rw [nK_one, kinv_one] at h
  refine h.mono ?_
  rintro e w' (⟨h, _⟩ | ⟨_, q, he, hs, hb'⟩)
  ·exact absurd h h1
  ·rw [qryL_length] at he hs
   exact ⟨q, he, hs, hb'⟩
 have HDEC : Hid (∀ (wz : World) (vz : Value) (v s j : KL F), v.length = y.nin → s.length = y.arity → SlK wz wz.heap.size vz (qryL y L v j 1 (prvL L (y.gad F) s (argOf y v j 1) y.calls y.proof) x) →
   Calls Tryz.prog 36 #[y.val F, vz] wz fun e w' => e = .returned (.tuple #[.bool (decide (dirF y v j = 0)), .int .i64 0]) ∧ Below wz.heap.size wz w') := fun wz vz v s j h1 h2 hz => decide_prv hF y hok hcl (by omega) hcN v j s h1 h2 y.proof x vz wz hz
 have HPL9 : Hid (∀ s : KL F, s.length = y.arity → ∀ a, (prvL L (y.gad F) s a y.calls y.proof).length = y.proof) := hpl
 have EQL : ∀ (a0 a1 b0 b1 : Int) (wz : World), (Op.equalIn 10000 36 (.agg #[.int .u64 a0, .int .u64 a1]) (.agg #[.int .u64 b0, .int .u64 b1])).run Tryz.prog wz = .ok (a0 == b0 && a1 == b1) wz := fun a0 a1 b0 b1 wz => run_equalIn_elem 9998 a0 a1 b0 b1 wz
 have HME : Hid (∀ (vx : Value) (us : List Int) wz, SlU w w.heap.size vx us → Below w.heap.size w wz → us.length ≤ 60 → Calls Tryz.prog 47 #[y.val F, vx] wz fun e w' => ∃ q : List Nat × Option Addr × Nat, e = .returned (.slice q.2.1 q.1.length q.2.2) ∧ (q.1.length = y.meas ∧ okEnc y q.1 ∧ SlU w' w'.heap.size (.slice q.2.1 q.1.length q.2.2) (natsI q.1)) ∧ Below wz.heap.size wz w') :=
  fun vx us wz hs hb h => (law10_Measure hF y hok _ us wz ((hs.below hb).mono hb.size) (by omega)).mono fun e w' ⟨ms, A', cp', h1, h2, he, hs, hb'⟩ => ⟨(ms, A', cp'), he, ⟨h1, h2, hs⟩, hb'⟩
 have HENC : Hid (∀ (ms : List Nat) (vm : Value) wz, ms.length = y.meas → okEnc y ms → SlU wz wz.heap.size vm (natsI ms) → Calls Tryz.prog 46 #[y.val F, vm] wz fun e w' => ∃ q : Nat × Nat, e = .returned (.tuple #[.slice (some ⟨q.1, 0, none⟩) y.nin q.2, .int .i64 0]) ∧ (wz.heap.size ≤ q.1 ∧ SlK w' w'.heap.size (.slice (some ⟨q.1, 0, none⟩) y.nin q.2) ((encL y ms).map (nK F))) ∧ Below wz.heap.size wz w') :=
  fun ms vm wz h1 h2 h3 => circuit_EncodeN hF y hok hy.calls vm ms h1 h2 wz h3
 have HEV : Hid (∀ (ms : List Nat), ms.length = y.meas → okEnc y ms → ((encL y ms).map (nK F)).length = y.nin ∧ ∀ j : KL F, dirF y ((encL y ms).map (nK F)) j = 0) := fun ms h1 h2 => by
  have hln : ((encL y ms).map (nK F)).length = y.nin := by rw [List.length_map, enc_length h1]
  exact ⟨hln, fun j => dirF_ok y hok _ j hln (enc_okVec y hok h1 h2)⟩
 have HPTK : Hid (∀ s : KL F, s.length = y.arity → ∀ a, (prvL L (y.gad F) s a y.calls y.proof).take y.arity = s) := fun s h a => prvL_take L (y.gad F) s a y.calls y.proof y.arity h
 have HSAM : Hid (∀ wz (va vb : Value) (Z : KL F), SlK wz wz.heap.size va Z → SlK wz wz.heap.size vb Z → Calls Tryz.prog 26 #[va, vb] wz fun e w' => e = .returned (.bool true) ∧ Below wz.heap.size wz w') := fun wz va vb Z h1 h2 => ref_Same_eq _ _ _ _ wz h1.toE h2.toE rfl
 have HPRF : Hid (∀ wz, Calls Tryz.prog 21 #[y.val F] wz (RetI y.proof wz)) := fun wz => circuit_Proof hF y hok hcl wz
 have HVER : Hid (∀ wz, Calls Tryz.prog 43 #[y.val F] wz (RetI (y.arity + 2) wz)) := fun wz => circuit_Verifier hF y hok wz
 have hN9 : 2 ^ L ≤ 256 := Nat.le_trans (Nat.pow_le_pow_right (by omega) hL) (by decide)
 have HDOM : Hid (∀ wz, Calls Tryz.prog 30 #[y.val F] wz (RetI (2 ^ L) wz)) := fun wz => by
  have h := circuit_Domain F y hok hcl wz
  rwa [hN] at h
 have HLG : Hid (∀ wz, Below w.heap.size w wz → Calls Tryz.prog 29 #[.int .i64 ((2 ^ L : Nat) : Int)] wz fun e w' => e = .returned (.tuple #[.int .i64 L, .bool true]) ∧ wz = w') := fun wz h => ntt_Log_ok L (by omega) wz (hT.call h)
 have HPT := Lib.hid (fun wz => ntt_Points hF L (by omega) wz)
 obtain ⟨N, hNN⟩ : ∃ N, 2 ^ L = N := ⟨_, rfl⟩
 have HNN := Lib.hid hNN
 have HPTL : Hid ((pows (rootK F L) (2 ^ L)).length = N) := (ofF_length ..).trans hNN
 have HPPW : Hid (∀ k, k < N → ∃ x : Fin (Pm F), (pows (rootK F L) (2 ^ L))[k]? = some x ∧ Fm.kpow x (2 ^ L) = 1) := fun k hk => by
  have hr := rt_root F L (by omega)
  exact ⟨_, pows_get _ _ _ (by omega), by rw [← Fm.kpow_mul, Nat.mul_comm, Fm.kpow_mul, hr.one, one_kpow]⟩
 have h81 : 1 ≤ N := by rw [← hNN]; exact Nat.two_pow_pos L
 have h82 : N ≤ 256 := by omega
 rw [hNN] at HDOM HLG
 obtain ⟨A1, c1, rfl, _, _, _⟩ := id hms.1
 obtain ⟨⟨A2, c2, rfl, _, _, _⟩, _⟩ := id hxs
 have HXS := Lib.hid hxs
 have HMS := Lib.hid hms
 have HX : Hid ((Fm.kpow x (2 ^ L) = 1) ∨ ¬ (Fm.kpow x (2 ^ L) = 1)) := Classical.em _
 obtain ⟨q9, rfl⟩ : ∃ q : Nat, kk = (q : Int) := ⟨kk.toNat, by omega⟩
 have hfb0 : (1 : Int) ≤ (F : Int) := by rcases hF.or with rfl | rfl <;> omega
 have hfb1 : (F : Int) ≤ 2 := by rcases hF.or with rfl | rfl <;> omega
 clear hxs hms hCIR hx he0 he1 hT hk hf hb hl hm hc hcl hcl2 hN hcN hL hok hnin hy hga hpl hN9 hNN
 unfold CK.val at HCIR HJOI HSO3 HOUT HQN HQY HPRV HDEC HGAD HME HENC HPRF HVER HDOM
 generalize y.arity + 2 = n2 at *
 generalize y.nin = ni at *
 generalize y.joint = nj at *
 generalize y.proof = tot at *
 generalize y.arity = ar at *
 generalize y.gad F = gd at *
 generalize ((y.k : Nat) : Int) = yk at *
 generalize ((y.b : Nat) : Int) = yb at *
 generalize ((y.l : Nat) : Int) = yl at *
 generalize ((y.m : Nat) : Int) = ym at *
 generalize ((y.c : Nat) : Int) = yc at *
 have hb00 : Below w.heap.size w w := Below.refl _ _
 go_enter Tryz.func9, Tryz.ntmps9
 go_upto_region 1 with fail
 have hs := (Vs.new w [.int .u8 k, .int .u8 f, .int .u8 b, .int .u8 l, .int .u8 m, .int .u8 c] #[.int .u8 k, .int .u8 f, .int .u8 b, .int .u8 l, .int .u8 m, .int .u8 c] 23 rfl).alloc (.cells #[.int .u64 e0, .int .u64 e1] 36)
 have hee := V2.new (w.alloc (.cells #[.int .u8 k, .int .u8 f, .int .u8 b, .int .u8 l, .int .u8 m, .int .u8 c] 23)) (.int .u64 e0) (.int .u64 e1) 36
 simp only [World.size_alloc] at hee
 have hbw : Below w.heap.size w ((w.alloc (.cells #[.int .u8 k, .int .u8 f, .int .u8 b, .int .u8 l, .int .u8 m, .int .u8 c] 23)).alloc (.cells #[.int .u64 e0, .int .u64 e1] 36)) := by repeat (first | exact bA | with_reducible assumption | apply bB)
 have hszn : w.heap.size + 2 ≤ ((w.alloc (.cells #[.int .u8 k, .int .u8 f, .int .u8 b, .int .u8 l, .int .u8 m, .int .u8 c] 23)).alloc (.cells #[.int .u64 e0, .int .u64 e1] 36)).heap.size := by simp only [World.size_alloc]; omega
 generalize ((w.alloc (.cells #[.int .u8 k, .int .u8 f, .int .u8 b, .int .u8 l, .int .u8 m, .int .u8 c] 23)).alloc (.cells #[.int .u64 e0, .int .u64 e1] 36)) = w1 at hs hee hbw hszn ⊢
 clear hb00
 by_cases h20 : 20 < us.length
 ·skip
  go_wp2_with (first
   | (go_at_call 10; refine (HAW.out _ hbw).mono ?_; rintro e w2 ⟨rfl, hb2⟩; replace hbw := bl_call hbw (Nat.le_refl _) hb2; replace hs := hs.call hb2; replace hee := hee.call hb2))
  go_ret
  exact ⟨rfl, hbw⟩
 by_cases h40 : 40 < xs.length
 ·skip
  go_wp2_with (first
   | (go_at_call 10; refine (HAW.out _ hbw).mono ?_; rintro e w2 ⟨rfl, hb2⟩; replace hbw := bl_call hbw (Nat.le_refl _) hb2; replace hs := hs.call hb2; replace hee := hee.call hb2))
  go_ret
  exact ⟨rfl, hbw⟩
 obtain ⟨⟨s0, s1, s2, s3, s4, s5⟩, ⟨s6, s7, s8, s9, s10, s11⟩, s12⟩ := hs.get6
 obtain ⟨ee0, ee1, ee2, ee3, ee4⟩ := V2.mk hee.c0 hee.c1 hee.f0 hee.f1 hee.lt
 go_upto_region 5 with (first
  | (go_at_call 10; refine (HAW.out _ hbw).mono ?_; rintro e w2 ⟨rfl, hb2⟩; replace hbw := bl_call hbw (Nat.le_refl _) hb2; replace hs := hs.call hb2; replace hee := hee.call hb2; clear s0 s1 s2 s3 s4 s5 s6 s7 s8 s9 s10 s11 s12 ee0 ee1 ee2 ee3 ee4; clear hb2; obtain ⟨⟨s0, s1, s2, s3, s4, s5⟩, ⟨s6, s7, s8, s9, s10, s11⟩, s12⟩ := hs.get6; obtain ⟨ee0, ee1, ee2, ee3, ee4⟩ := V2.mk hee.c0 hee.c1 hee.f0 hee.f1 hee.lt))
 go_upto_region 6 with (first
  | (go_at_call 11; refine (HCIR.out _).mono ?_; rintro e w3 ⟨rfl, hb3⟩; replace hbw := bl_call hbw (Nat.le_refl _) hb3; replace hs := hs.call hb3; replace hee := hee.call hb3; clear s0 s1 s2 s3 s4 s5 s6 s7 s8 s9 s10 s11 s12 ee0 ee1 ee2 ee3 ee4; clear hb3; obtain ⟨⟨s0, s1, s2, s3, s4, s5⟩, ⟨s6, s7, s8, s9, s10, s11⟩, s12⟩ := hs.get6; obtain ⟨ee0, ee1, ee2, ee3, ee4⟩ := V2.mk hee.c0 hee.c1 hee.f0 hee.f1 hee.lt))
 clear s0 s1 s2 s3 s4 s5 s6 s7 s8 s9 s10 s11 s12 ee0 ee1 ee2 ee3 ee4
 have hY := Vs.new w3 [.int .u8 yk, .int .u8 (F : Int), .int .i64 yb, .int .i64 yl, .int .i64 ym, .int .i64 yc] #[.int .u8 yk, .int .u8 (F : Int), .int .i64 yb, .int .i64 yl, .int .i64 ym, .int .i64 yc] 30 rfl
 have hbA : Below w3.heap.size w3 (w3.alloc (.cells #[.int .u8 yk, .int .u8 (F : Int), .int .i64 yb, .int .i64 yl, .int .i64 ym, .int .i64 yc] 30)) := by repeat (first | exact bA | with_reducible assumption | apply bB)
 replace hbw := bl_call hbw (Nat.le_refl _) hbA
 replace hs := hs.call hbA
 replace hee := hee.call hbA
 clear hbA
 generalize w3.alloc (.cells #[.int .u8 yk, .int .u8 (F : Int), .int .i64 yb, .int .i64 yl, .int .i64 ym, .int .i64 yc] 30) = w4 at hbw hs hee hY ⊢
 have h20' : us.length ≤ 60 := by omega
 have h40' : xs.length ≤ 60 := by omega
 clear h20 h40 hs
 obtain ⟨⟨Y0, Y1, Y2, Y3, Y4, Y5⟩, ⟨Y6, Y7, Y8, Y9, Y10, Y11⟩, Y12⟩ := hY.get6
 refine region_G (n := 9) (m := 10) (f := 9) (by kernel_rfl) (by kernel_rfl) rfl ?_
 refine WpG.vD 0 (some 43) ?_ rfl rfl (by kernel_rfl) (fun _ _ _ h => h) rfl (fun wz hwz => ?_) ?_
 rotate_left
 ·(obtain ⟨hcz, hfz⟩ := bcell (hwz); go_simp; try (with_reducible rfl))
 simp only [Zp, Zq, Zr, Zs]
 refine WpG.vD 1 (some 44) ?_ rfl rfl (by kernel_rfl) (fun _ _ _ h => h) rfl (fun wz hwz => ?_) ?_
 rotate_left
 ·(obtain ⟨hcz, hfz⟩ := bcell (hwz); go_simp; try (with_reducible rfl))
 simp only [Zp, Zq, Zr, Zs]
 refine WpG.vD 2 (some 45) ?_ rfl rfl (by kernel_rfl) (fun _ _ _ h => h) rfl (fun wz hwz => ?_) ?_
 rotate_left
 ·go_simp; try (with_reducible rfl)
 simp only [Zp, Zq, Zr, Zs]
 refine WpG.oneD 3 (some 46) rfl rfl (by kernel_rfl) (fun q : List Nat × Option Addr × Nat => Value.slice q.2.1 q.1.length q.2.2) (fun q wz => q.1.length = y.meas ∧ okEnc y q.1 ∧ SlU wz wz.heap.size (.slice q.2.1 q.1.length q.2.2) (natsI q.1)) (fun _ _ _ h hb => ⟨h.1, h.2.1, h.2.2.later hb⟩) (Fresh.call rfl (fun wz hwz => HME.out _ us wz HMS.out (bl_call hbw (Nat.le_refl _) (hwz)) h20') (fun wz hwz => by go_simp; try (with_reducible rfl))) (fun mq w0m hw0m hR0m => ?_)
 simp only [Zp, Zq, Zr, Zs]
 refine WpG.oneD 4 (some 47) rfl rfl (by kernel_rfl) (fun q : Nat × Nat => Value.tuple #[.slice (some ⟨q.1, 0, none⟩) ni q.2, .int .i64 0]) (fun q wz => w4.heap.size ≤ q.1 ∧ SlK wz wz.heap.size (.slice (some ⟨q.1, 0, none⟩) ni q.2) ((encL y mq.1).map (nK F))) (fun _ _ _ h hb => ⟨h.1, h.2.later hb⟩) (Fresh.call rfl (fun wz hwz => (HENC.out mq.1 (.slice mq.2.1 mq.1.length mq.2.2) wz (hwz.2).1 (hwz.2).2.1 (hwz.2).2.2).mono fun e w' ⟨q, h1, ⟨h3, h4⟩, h5⟩ => ⟨q, h1, ⟨Nat.le_trans (hwz.1).size h3, h4⟩, h5⟩) (fun wz hwz => by go_simp; try (with_reducible rfl))) (fun qi w0i hw0i hR0i => ?_)
 simp only [Zp, Zq, Zr, Zs]
 refine WpG.vD 5 (some 42) ?_ rfl rfl (by kernel_rfl) (fun _ _ _ h => h) rfl (fun wz hwz => ?_) ?_
 rotate_left
 ·go_simp; try (with_reducible rfl)
 simp only [Zp, Zq, Zr, Zs]
 refine WpG.vD 6 (some 48) ?_ rfl rfl (by kernel_rfl) (fun _ _ _ h => h) rfl (fun wz hwz => ?_) ?_
 rotate_left
 ·go_simp; try (with_reducible rfl)
 simp only [Zp, Zq, Zr, Zs]
 refine WpG.vD 7 (some 49) ?_ rfl rfl (by kernel_rfl) (fun _ _ _ h => h) rfl (fun wz hwz => ?_) ?_
 rotate_left
 ·go_simp; try (with_reducible rfl)
 simp only [Zp, Zq, Zr, Zs]
 refine WpG.vD 8 (some 12) ?_ rfl rfl (by kernel_rfl) (fun _ _ _ h => h) rfl (fun wz hwz => ?_) ?_
 rotate_left
 ·go_simp; try (with_reducible rfl)
 simp only [Zp, Zq, Zr, Zs]
 refine WpG.done (by kernel_rfl) (fun w5 hS => ?_)
 (try simp only [List.drop_succ_cons]); (try simp only [List.drop_zero]); (try simp only [Nat.reduceSub]); (try simp only [List.take_succ_cons]); (try simp only [List.take_zero])
 obtain ⟨⟨hb5, hmq1, hmq2, _⟩, hgi, hSI⟩ := hS
 obtain ⟨hvl, hdz⟩ := HEV.out mq.1 hmq1 hmq2
 generalize (encL y mq.1).map (nK F) = v at *
 obtain ⟨gi, ci⟩ := qi
 try dsimp only at hgi hSI ⊢
 clear Y0 Y1 Y2 Y3 Y4 Y5 Y6 Y7 Y8 Y9 Y10 Y11 Y12
 replace hbw := bl_call hbw (Nat.le_refl _) hb5
 replace hY := hY.call hb5
 replace hee := hee.call hb5
 have HVL := Lib.hid hvl
 have HDZ := Lib.hid hdz
 have hil : gi < w5.heap.size := by
  obtain ⟨A', c', hv', _, _, hA'⟩ := id hSI
  obtain ⟨b', o', hbe, hlt, _⟩ := hA' (by have := HVL.out; omega)
  injection hv' with e1 _ _
  rw [hbe] at e1
  injection e1 with e1
  injection e1 with e1
  subst e1
  exact hlt
 clear hb5 hvl hdz hgi hmq1 hmq2 HME HENC HEV HMS h20'
 go_upto_region 7 with fail
 have HYY := Lib.hid hY
 have HBW := Lib.hid hbw
 apply region_Z3 (n := 10) (m := 11) (f := 10) (fun x0 x1 x2 => (PrK w5 gd ar nj) (some x0) (some x1) (some x2) ) ((PrT w5 gd) none none none) ((PrK w5 gd ar nj) none none none) ((fun _ h => h.t)) (PrK.clo) ((PrK.start w5 gd ar nj))
 case hm => kernel_rfl
 case hB => kernel_rfl
 case hf => rfl
 case' h =>
  refine WpX.vD 0 (some 50) ?_ rfl rfl (by kernel_rfl) (fun _ _ _ h => h) rfl (fun wz hwz => ?_) ?_
  rotate_left
  ·(have hz := (HYY.out.call hwz.1).get6; obtain ⟨⟨z0, z1, z2, z3, z4, z5⟩, ⟨y0, y1, y2, y3, y4, y5⟩, y6⟩ := hz; go_simp; try (with_reducible rfl))
  simp only [Zp, Zq, Zr, Zs]
  refine WpX.vD 1 (some 51) ?_ rfl rfl (by kernel_rfl) (fun _ _ _ h => h) rfl (fun wz hwz => ?_) ?_
  rotate_left
  ·go_simp; try (with_reducible rfl)
  simp only [Zp, Zq, Zr, Zs]
  refine WpX.vD 2 (some 52) ?_ rfl rfl (by kernel_rfl) (fun _ _ _ h => h) rfl (fun wz hwz => ?_) ?_
  rotate_left
  ·(have hz := (HYY.out.call hwz.1).get6; obtain ⟨⟨z0, z1, z2, z3, z4, z5⟩, ⟨y0, y1, y2, y3, y4, y5⟩, y6⟩ := hz; go_simp; try (with_reducible rfl))
  simp only [Zp, Zq, Zr, Zs]
  refine WpX.vD 6 (some 56) ?_ rfl rfl (by kernel_rfl) (fun _ _ _ h => h) rfl (fun wz hwz => ?_) ?_
  rotate_left
  ·(have hz := (HYY.out.call hwz.1).get6; obtain ⟨⟨z0, z1, z2, z3, z4, z5⟩, ⟨y0, y1, y2, y3, y4, y5⟩, y6⟩ := hz; go_simp; try (with_reducible rfl))
  simp only [Zp, Zq, Zr, Zs]
  refine WpX.vD 7 (some 57) ?_ rfl rfl (by kernel_rfl) (fun _ _ _ h => h) rfl (fun wz hwz => ?_) ?_
  rotate_left
  ·go_simp; try (with_reducible rfl)
  simp only [Zp, Zq, Zr, Zs]
  refine WpX.oneD 3 (some 53) rfl rfl (by kernel_rfl) (fun q : Int × Value × Int => Value.agg #[.int .u8 q.1, q.2.1, .int .i64 q.2.2]) (fun gq => (PrT w5 gd) (some gq) none none) (fun gq => (PrK w5 gd ar nj) (some gq) none none) (Turns.call rfl (fun _ _ h => ⟨h.1, fun _ e => (by cases e)⟩) (fun _ => (fun _ h => h.t)) (fun _ => PrK.clo) (fun wz hS => (HGAD.out wz).mono fun e w' ⟨k, sl, n, he, hr, hb, hn⟩ => ⟨(k, sl, n), he, hS.mk1 (k, sl, n) hr hb⟩) (fun wz hS => by go_simp; try (with_reducible rfl))) (fun gq => ?_)
  simp only [Zp, Zq, Zr, Zs]
  refine WpX.takeD 4 (some 54) rfl rfl (by kernel_rfl) (fun _ _ _ h => h) (.call rfl (fun wz hwz => HARI.out wz _ gq.1 gq.2.1 gq.2.2 (hwz.2 gq rfl)) (fun wz hwz => ?_)) ?_
  ·go_simp; try (with_reducible rfl)
  simp only [Zp, Zq, Zr, Zs]
  refine WpX.oneD 5 (some 55) rfl rfl (by kernel_rfl) (fun q : Nat × KL F => Value.slice (some ⟨q.1, 0, none⟩) ar ar) (fun qs => (PrT w5 gd) (some gq) (some qs) none) (fun qs => (PrK w5 gd ar nj) (some gq) (some qs) none) (Turns.call rfl (fun _ _ h => h) (fun _ => (fun _ h => h.t)) (fun _ => PrK.clo) (fun wz hS => (HSO3.out _ xs wz HXS.out (bl_call HBW.out (Nat.le_refl _) hS.t.1) h40').mono fun e w' ⟨q, h1, ⟨h2, h3, h4⟩, h5⟩ => ⟨q, h1, hS.mk2 q h2 h3 h4 h5⟩) (fun wz hS => by go_simp; try (with_reducible rfl))) (fun qs => ?_)
  simp only [Zp, Zq, Zr, Zs]
  refine WpX.oneD 8 (some 58) rfl rfl (by kernel_rfl) (fun q : Nat × KL F => Value.slice (some ⟨q.1, 0, none⟩) nj nj) (fun qj => (PrT w5 gd) (some gq) (some qs) (some qj)) (fun qj => (PrK w5 gd ar nj) (some gq) (some qs) (some qj)) (Turns.call rfl (fun _ _ h => h) (fun _ => (fun _ h => h.t)) (fun _ => PrK.clo) (fun wz hS => (HJOI.out _ xs wz HXS.out (bl_call HBW.out (Nat.le_refl _) hS.t.1) h40').mono fun e w' ⟨q, h1, ⟨h2, h3, h4⟩, h5⟩ => ⟨q, h1, hS.mk3 q h2 h3 h4 h5⟩) (fun wz hS => by go_simp; try (with_reducible rfl))) (fun qj => ?_)
  simp only [Zp, Zq, Zr, Zs]
  refine WpX.vD 9 (some 14) ?_ rfl rfl (by kernel_rfl) (fun _ _ _ h => h) rfl (fun wz hwz => ?_) ?_
  rotate_left
  ·go_simp; try (with_reducible rfl)
  simp only [Zp, Zq, Zr, Zs]
  refine WpX.done (by kernel_rfl) (fun w6 hS => ⟨gq, qs, qj, rfl, ?_⟩)
  ·exact hS
 intro gq qs qj w6 hS
 (try simp only [List.drop_succ_cons]); (try simp only [List.drop_zero]); (try simp only [Nat.reduceSub]); (try simp only [List.take_succ_cons]); (try simp only [List.take_zero])
 obtain ⟨hsl, _, hBS⟩ := hS.b qs rfl
 obtain ⟨hjl, _, hBJ⟩ := hS.c qj rfl
 have hb6 := hS.t.1
 obtain ⟨gs, s⟩ := qs
 obtain ⟨gj, j⟩ := qj
 try dsimp only at hsl hBS hjl hBJ ⊢
 clear hS HYY HBW
 replace hbw := bl_call hbw (Nat.le_refl _) hb6
 replace hY := hY.call hb6
 replace hee := hee.call hb6
 replace hSI := hSI.later hb6
 have HSL := Lib.hid hsl
 have HJL := Lib.hid hjl
 have h56 := hb6.size
 clear hb6 hsl hjl HSO3 HJOI HXS h40' HGAD HARI
 have lj := hBJ.lt
 obtain ⟨⟨Y0, Y1, Y2, Y3, Y4, Y5⟩, ⟨Y6, Y7, Y8, Y9, Y10, Y11⟩, Y12⟩ := hY.get6
 go_upto_region 9 with (first
  | (go_at_call 38; refine (HPRV.out _ gi ci gs gj v s j hbw HVL.out HSL.out HJL.out hSI hBS hBJ).mono ?_; rintro e w9 ⟨qp9, rfl, ⟨hqn, hSP⟩, hb9⟩; replace hbw := bl_call hbw (Nat.le_refl _) hb9; replace hY := hY.call hb9; replace hee := hee.call hb9; replace hSI := hSI.later hb9; replace hBS := hBS.call hb9; replace hBJ := hBJ.call hb9; clear Y0 Y1 Y2 Y3 Y4 Y5 Y6 Y7 Y8 Y9 Y10 Y11 Y12; clear hb9; obtain ⟨⟨Y0, Y1, Y2, Y3, Y4, Y5⟩, ⟨Y6, Y7, Y8, Y9, Y10, Y11⟩, Y12⟩ := hY.get6))
 clear Y0 Y1 Y2 Y3 Y4 Y5 Y6 Y7 Y8 Y9 Y10 Y11 Y12
 obtain ⟨gp, cp⟩ := qp9
 try dsimp only at hqn hSP ⊢
 have n1 : ¬ gi = gp := by omega
 have n2' : gj ≠ gp := by omega
 have HPLN := Lib.hid (HPL9.out s HSL.out (argOf y v j 1))
 have HTK := Lib.hid (HPTK.out s HSL.out (argOf y v j 1))
 have hcp : tot ≤ cp := by
  obtain ⟨A', c', hv', h1, _, _⟩ := id hSP
  injection hv' with _ _ e3
  rw [HPLN.out] at h1
  omega
 have hTK : SlK w9 w9.heap.size (.slice (some ⟨gp, 0, none⟩) ar cp) s := by
  have h2 := hSP.takeM HPLN.out hat
  rwa [HTK.out] at h2
 have hss := hBS.slM HSL.out (by omega)
 clear lj hqn hBS HPRV HPL9 HPTK hil h56
 have g1 : (0 : Int) ≤ (ar : Int) := by omega
 have g2 : ar ≤ cp := by omega
 have g3 : (ar : Int) ≤ (cp : Int) := by omega
 have hne : ((tot : Int) != (tot : Int)) = false := by simp
 obtain ⟨⟨Y0, Y1, Y2, Y3, Y4, Y5⟩, ⟨Y6, Y7, Y8, Y9, Y10, Y11⟩, Y12⟩ := hY.get6
 go_upto_region 11 with (first
  | (go_at_call 21; refine (HPRF.out _).mono ?_; rintro e w10 ⟨rfl, hb10⟩; replace hbw := bl_call hbw (Nat.le_refl _) hb10; replace hY := hY.call hb10; replace hee := hee.call hb10; replace hSI := hSI.later hb10; replace hBJ := hBJ.call hb10; replace hSP := hSP.later hb10; replace hTK := hTK.later hb10; replace hss := hss.later hb10; clear Y0 Y1 Y2 Y3 Y4 Y5 Y6 Y7 Y8 Y9 Y10 Y11 Y12; clear hb10; obtain ⟨⟨Y0, Y1, Y2, Y3, Y4, Y5⟩, ⟨Y6, Y7, Y8, Y9, Y10, Y11⟩, Y12⟩ := hY.get6)
  | (go_at_call 26; refine (HSAM.out _ _ _ _ hTK hss).mono ?_; rintro e w11 ⟨rfl, hb11⟩; replace hbw := bl_call hbw (Nat.le_refl _) hb11; replace hY := hY.call hb11; replace hee := hee.call hb11; replace hSI := hSI.later hb11; replace hBJ := hBJ.call hb11; replace hSP := hSP.later hb11; replace hTK := hTK.later hb11; replace hss := hss.later hb11; clear Y0 Y1 Y2 Y3 Y4 Y5 Y6 Y7 Y8 Y9 Y10 Y11 Y12; clear hb11; obtain ⟨⟨Y0, Y1, Y2, Y3, Y4, Y5⟩, ⟨Y6, Y7, Y8, Y9, Y10, Y11⟩, Y12⟩ := hY.get6))
 clear hTK hss
 have HDC : Hid (∀ (wz : World) (vz : Value), SlK wz wz.heap.size vz (qryL y L v j 1 (prvL L gd s (argOf y v j 1) y.calls tot) x) →
   Calls Tryz.prog 36 #[.agg #[.int .u8 yk, .int .u8 (F : Int), .int .i64 yb, .int .i64 yl, .int .i64 ym, .int .i64 yc], vz] wz fun e w' => e = .returned (.tuple #[.bool true, .int .i64 0]) ∧ Below wz.heap.size wz w') := fun wz vz hz => by
  have h := HDEC.out wz vz v s j HVL.out HSL.out hz
  rwa [HDZ.out j, decide_eq_true (rfl : (0 : Fin (Pm F)) = 0)] at h
 clear HDEC
 obtain ⟨⟨Y0, Y1, Y2, Y3, Y4, Y5⟩, ⟨Y6, Y7, Y8, Y9, Y10, Y11⟩, Y12⟩ := hY.get6
 obtain ⟨ee0, ee1, ee2, ee3, ee4⟩ := V2.mk hee.c0 hee.c1 hee.f0 hee.f1 hee.lt
 go_upto_region 12 with (first
  | (go_at_call 23; refine (HOUT.out _ hbw).mono ?_; rintro e w12 ⟨rfl, hb12⟩; replace hbw := bl_call hbw (Nat.le_refl _) hb12; replace hY := hY.call hb12; replace hee := hee.call hb12; replace hSI := hSI.later hb12; replace hBJ := hBJ.call hb12; replace hSP := hSP.later hb12; clear Y0 Y1 Y2 Y3 Y4 Y5 Y6 Y7 Y8 Y9 Y10 Y11 Y12 ee0 ee1 ee2 ee3 ee4; clear hb12; obtain ⟨⟨Y0, Y1, Y2, Y3, Y4, Y5⟩, ⟨Y6, Y7, Y8, Y9, Y10, Y11⟩, Y12⟩ := hY.get6; obtain ⟨ee0, ee1, ee2, ee3, ee4⟩ := V2.mk hee.c0 hee.c1 hee.f0 hee.f1 hee.lt))
 clear Y0 Y1 Y2 Y3 Y4 Y5 Y6 Y7 Y8 Y9 Y10 Y11 Y12 ee0 ee1 ee2 ee3 ee4
 have hpt := V2.new w12 (.int .u64 (lo x)) (.int .u64 (hi x)) 36
 have hbA : Below w12.heap.size w12 (w12.alloc (.cells #[.int .u64 (lo x), .int .u64 (hi x)] 36)) := by repeat (first | exact bA | with_reducible assumption | apply bB)
 replace hbw := bl_call hbw (Nat.le_refl _) hbA
 replace hY := hY.call hbA
 replace hee := hee.call hbA
 replace hSI := hSI.later hbA
 replace hBJ := hBJ.call hbA
 replace hSP := hSP.later hbA
 clear hbA
 generalize w12.alloc (.cells #[.int .u64 (lo x), .int .u64 (hi x)] 36) = w13 at hbw hY hee hSI hBJ hSP hpt ⊢
 clear hee HOUT
 rcases HX.out with hx1 | hx1
 ·have hdx : decide (Fm.kpow x (2 ^ L) = 1) = true := decide_eq_true hx1
  have HQ := Lib.hid (HQN.out x hx1)
  clear HQN HQY hx1
  obtain ⟨⟨Y0, Y1, Y2, Y3, Y4, Y5⟩, ⟨Y6, Y7, Y8, Y9, Y10, Y11⟩, Y12⟩ := hY.get6
  obtain ⟨pt0, pt1, pt2, pt3, pt4⟩ := V2.mk hpt.c0 hpt.c1 hpt.f0 hpt.f1 hpt.lt
  go_upto_region 13 with (first
   | (go_at_call 24; refine (HQ.out _ gi ci gp cp gj v _ j hbw n1 n2' HVL.out HPLN.out HJL.out hSI hSP hBJ).mono ?_; rintro e w14 ⟨rfl, hb14⟩; replace hbw := bl_call hbw (Nat.le_refl _) hb14; replace hY := hY.call hb14; replace hSI := hSI.later hb14; replace hBJ := hBJ.call hb14; replace hSP := hSP.later hb14; clear Y0 Y1 Y2 Y3 Y4 Y5 Y6 Y7 Y8 Y9 Y10 Y11 Y12; clear hb14; obtain ⟨⟨Y0, Y1, Y2, Y3, Y4, Y5⟩, ⟨Y6, Y7, Y8, Y9, Y10, Y11⟩, Y12⟩ := hY.get6))
  go_wp2_with fail
  go_ret
  exact ⟨rfl, hbw⟩
 ·have hdx : decide (Fm.kpow x (2 ^ L) = 1) = false := decide_eq_false hx1
  have HQ := Lib.hid (HQY.out hx1)
  clear HQY hx1
  obtain ⟨⟨Y0, Y1, Y2, Y3, Y4, Y5⟩, ⟨Y6, Y7, Y8, Y9, Y10, Y11⟩, Y12⟩ := hY.get6
  obtain ⟨pt0, pt1, pt2, pt3, pt4⟩ := V2.mk hpt.c0 hpt.c1 hpt.f0 hpt.f1 hpt.lt
  go_upto_region 13 with (first
   | (go_at_call 24; refine (HQ.out _ gi ci gp cp gj v _ j hbw n1 n2' HVL.out HPLN.out HJL.out hSI hSP hBJ).mono ?_; rintro e w14 ⟨qz, rfl, hZ, hb14⟩; replace hbw := bl_call hbw (Nat.le_refl _) hb14; replace hY := hY.call hb14; replace hSI := hSI.later hb14; replace hBJ := hBJ.call hb14; replace hSP := hSP.later hb14; clear Y0 Y1 Y2 Y3 Y4 Y5 Y6 Y7 Y8 Y9 Y10 Y11 Y12; clear hb14; obtain ⟨⟨Y0, Y1, Y2, Y3, Y4, Y5⟩, ⟨Y6, Y7, Y8, Y9, Y10, Y11⟩, Y12⟩ := hY.get6))
  clear Y0 Y1 Y2 Y3 Y4 Y5 Y6 Y7 Y8 Y9 Y10 Y11 Y12
  clear pt0 pt1 pt2 pt3 pt4 hpt
  obtain ⟨za, zc⟩ := qz
  try dsimp only at hZ ⊢
  obtain ⟨⟨Y0, Y1, Y2, Y3, Y4, Y5⟩, ⟨Y6, Y7, Y8, Y9, Y10, Y11⟩, Y12⟩ := hY.get6
  go_upto_region 16 with (first
   | (go_at_call 30; refine (HDOM.out _).mono ?_; rintro e w15 ⟨rfl, hb15⟩; replace hbw := bl_call hbw (Nat.le_refl _) hb15; replace hY := hY.call hb15; replace hSI := hSI.later hb15; replace hBJ := hBJ.call hb15; replace hSP := hSP.later hb15; replace hZ := hZ.later hb15; clear Y0 Y1 Y2 Y3 Y4 Y5 Y6 Y7 Y8 Y9 Y10 Y11 Y12; clear hb15; obtain ⟨⟨Y0, Y1, Y2, Y3, Y4, Y5⟩, ⟨Y6, Y7, Y8, Y9, Y10, Y11⟩, Y12⟩ := hY.get6)
   | (go_at_call 29; refine (HLG.out _ hbw).mono ?_; rintro e w16 ⟨rfl, rfl⟩))
  clear Y0 Y1 Y2 Y3 Y4 Y5 Y6 Y7 Y8 Y9 Y10 Y11 Y12
  obtain ⟨⟨Y0, Y1, Y2, Y3, Y4, Y5⟩, ⟨Y6, Y7, Y8, Y9, Y10, Y11⟩, Y12⟩ := hY.get6
  go_upto_region 17 with (go_at_call 31; refine (HPT.out _).mono ?_; rintro e w17 ⟨vt, rfl, hot, hb17⟩; rw [HPTL.out] at hot; obtain ⟨gt, ct, rfl⟩ := own_sliceP hot h81)
  clear Y0 Y1 Y2 Y3 Y4 Y5 Y6 Y7 Y8 Y9 Y10 Y11 Y12
  replace hbw := bl_call hbw (Nat.le_refl _) hb17
  replace hY := hY.call hb17
  replace hSI := hSI.later hb17
  replace hBJ := hBJ.call hb17
  replace hSP := hSP.later hb17
  replace hZ := hZ.later hb17
  have hst := own_sl HPTL.out hot
  have hjm : q9 % N < N := Nat.mod_lt _ h81
  obtain ⟨xp, hxp, hxp1⟩ := HPPW.out (q9 % N) hjm
  obtain ⟨d3, d4, d5⟩ := hst.cells hxp
  rw [Nat.zero_add] at d4 d5
  have HQ2 := Lib.hid (HQN.out xp hxp1)
  have hl9 : ¬ (N = 0) := by omega
  have hwq : IntKind.i64.wrap (q9 : Int) = (q9 : Int) := IntWalk.i64_in _ (by omega)
  have hjn : 0 ≤ (q9 : Int) % (N : Int) := Int.emod_nonneg _ (by omega)
  have hjl9 : (q9 : Int) % (N : Int) < (N : Int) := Int.emod_lt_of_pos _ (by omega)
  have hjt : ((q9 : Int) % (N : Int)).toNat = q9 % N := by rw [← Int.natCast_emod, Int.toNat_natCast]
  have hjd : (q9 : Int).tmod (N : Int) = (q9 : Int) % (N : Int) := Int.tmod_eq_emod_of_nonneg (by omega)
  clear hb17 hot hst hxp hxp1 HQN HPPW hjm HPT HLG HDOM HPTL
  obtain ⟨⟨Y0, Y1, Y2, Y3, Y4, Y5⟩, ⟨Y6, Y7, Y8, Y9, Y10, Y11⟩, Y12⟩ := hY.get6
  refine region_B (n := 17) (m := 18) (f := 17) (by kernel_rfl) (by kernel_rfl) rfl ?_
  refine WpH.vD 0 (some 127) ?_ rfl rfl (by kernel_rfl) (fun _ _ _ h => h) rfl (fun wz hwz => ?_) ?_
  rotate_left
  ·(obtain ⟨hcz, hfz⟩ := bcell hwz; go_simp; try (with_reducible rfl))
  simp only [Zp, Zq, Zr, Zs]
  refine WpH.vD 1 (some 128) ?_ rfl rfl (by kernel_rfl) (fun _ _ _ h => h) rfl (fun wz hwz => ?_) ?_
  rotate_left
  ·go_simp; try (with_reducible rfl)
  simp only [Zp, Zq, Zr, Zs]
  refine WpH.vD 2 (some 129) ?_ rfl rfl (by kernel_rfl) (fun _ _ _ h => h) rfl (fun wz hwz => ?_) ?_
  rotate_left
  ·go_simp; try (with_reducible rfl)
  simp only [Zp, Zq, Zr, Zs]
  refine WpH.vD 3 (some 130) ?_ rfl rfl (by kernel_rfl) (fun _ _ _ h => h) rfl (fun wz hwz => ?_) ?_
  rotate_left
  ·go_simp; try (with_reducible rfl)
  simp only [Zp, Zq, Zr, Zs]
  refine WpH.vD 4 (some 131) ?_ rfl rfl (by kernel_rfl) (fun _ _ _ h => h) rfl (fun wz hwz => ?_) ?_
  rotate_left
  ·go_simp; try (with_reducible rfl)
  simp only [Zp, Zq, Zr, Zs]
  refine WpH.vD 5 (some 132) ?_ rfl rfl (by kernel_rfl) (fun _ _ _ h => h) rfl (fun wz hwz => ?_) ?_
  rotate_left
  ·go_simp; try (with_reducible rfl)
  simp only [Zp, Zq, Zr, Zs]
  refine WpH.vD 6 (some 133) ?_ rfl rfl (by kernel_rfl) (fun _ _ _ h => h) rfl (fun wz hwz => ?_) ?_
  rotate_left
  ·go_simp; try (with_reducible rfl)
  simp only [Zp, Zq, Zr, Zs]
  refine WpH.vD 7 (some 134) ?_ rfl rfl (by kernel_rfl) (fun _ _ _ h => h) rfl (fun wz hwz => ?_) ?_
  rotate_left
  ·go_simp; try (with_reducible rfl)
  simp only [Zp, Zq, Zr, Zs]
  refine WpH.vD 8 (some 135) ?_ rfl rfl (by kernel_rfl) (fun _ _ _ h => h) rfl (fun wz hwz => ?_) ?_
  rotate_left
  ·go_simp; try (with_reducible rfl)
  simp only [Zp, Zq, Zr, Zs]
  refine WpH.vD 9 (some 136) ?_ rfl rfl (by kernel_rfl) (fun _ _ _ h => h) rfl (fun wz hwz => ?_) ?_
  rotate_left
  ·go_simp; try (with_reducible rfl)
  simp only [Zp, Zq, Zr, Zs]
  refine WpH.vD 10 (some 137) ?_ rfl rfl (by kernel_rfl) (fun _ _ _ h => h) rfl (fun wz hwz => ?_) ?_
  rotate_left
  ·go_simp; try (with_reducible rfl)
  simp only [Zp, Zq, Zr, Zs]
  refine WpH.vD 11 (some 138) ?_ rfl rfl (by kernel_rfl) (fun _ _ _ h => h) rfl (fun wz hwz => ?_) ?_
  rotate_left
  ·(obtain ⟨hcz, hfz⟩ := bcell hwz; go_simp; try (with_reducible rfl))
  simp only [Zp, Zq, Zr, Zs]
  refine WpH.takeD 12 (some 139) rfl rfl (by kernel_rfl) (fun _ _ _ h => h) (.call rfl (fun wz hwz => HQ2.out wz gi ci gp cp gj v (prvL L gd s (argOf y v j 1) y.calls tot) j (bl_call hbw (Nat.le_refl _) hwz) n1 n2' HVL.out HPLN.out HJL.out (hSI.later hwz) (hSP.later hwz) (hBJ.call hwz)) (fun wz hwz => ?_)) ?_
  ·go_simp; try (with_reducible rfl)
  simp only [Zp, Zq, Zr, Zs]
  refine WpH.vD 13 (some 126) ?_ rfl rfl (by kernel_rfl) (fun _ _ _ h => h) rfl (fun wz hwz => ?_) ?_
  rotate_left
  ·go_simp; try (with_reducible rfl)
  simp only [Zp, Zq, Zr, Zs]
  refine WpH.vD 14 (some 140) ?_ rfl rfl (by kernel_rfl) (fun _ _ _ h => h) rfl (fun wz hwz => ?_) ?_
  rotate_left
  ·go_simp; try (with_reducible rfl)
  simp only [Zp, Zq, Zr, Zs]
  refine WpH.vD 15 (some 141) ?_ rfl rfl (by kernel_rfl) (fun _ _ _ h => h) rfl (fun wz hwz => ?_) ?_
  rotate_left
  ·go_simp; try (with_reducible rfl)
  simp only [Zp, Zq, Zr, Zs]
  refine WpH.vD 16 (some 26) ?_ rfl rfl (by kernel_rfl) (fun _ _ _ h => h) rfl (fun wz hwz => ?_) ?_
  rotate_left
  ·go_simp; try (with_reducible rfl)
  simp only [Zp, Zq, Zr, Zs]
  refine WpH.doneB (by kernel_rfl) (fun w18 hw18 => ?_)
  (try simp only [List.drop_succ_cons]); (try simp only [List.drop_zero]); (try simp only [Nat.reduceSub]); (try simp only [List.take_succ_cons]); (try simp only [List.take_zero])
  clear Y0 Y1 Y2 Y3 Y4 Y5 Y6 Y7 Y8 Y9 Y10 Y11 Y12
  replace hbw := bl_call hbw (Nat.le_refl _) hw18
  replace hY := hY.call hw18
  replace hZ := hZ.later hw18
  clear d3 d4 d5 hjn hjl9 hjt hjd hw18 hSI hSP hBJ
  obtain ⟨⟨Y0, Y1, Y2, Y3, Y4, Y5⟩, ⟨Y6, Y7, Y8, Y9, Y10, Y11⟩, Y12⟩ := hY.get6
  go_upto_region 19 with (first
   | (go_at_call 36; refine (HDC.out _ _ hZ).mono ?_; rintro e w19 ⟨rfl, hb19⟩; replace hbw := bl_call hbw (Nat.le_refl _) hb19; replace hY := hY.call hb19; replace hZ := hZ.later hb19; clear Y0 Y1 Y2 Y3 Y4 Y5 Y6 Y7 Y8 Y9 Y10 Y11 Y12; clear hb19; obtain ⟨⟨Y0, Y1, Y2, Y3, Y4, Y5⟩, ⟨Y6, Y7, Y8, Y9, Y10, Y11⟩, Y12⟩ := hY.get6))
  go_wp2_with (first
   | (go_at_call 43; refine (HVER.out _).mono ?_; rintro e w20 ⟨rfl, hb20⟩; replace hbw := bl_call hbw (Nat.le_refl _) hb20; replace hY := hY.call hb20; replace hZ := hZ.later hb20))
  go_ret
  exact ⟨rfl, hbw⟩

end Go.Proofs.YtfbfbijkkbflkaaGreatDoor
