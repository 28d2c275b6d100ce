/-
 Meas: for TotalUnshards.
-/
import Derived.BigQuiet
import Derived.Test.YtbakkmfjamcbfaaRac
namespace Go.Proofs.Ytbakkmfjamcbfaa
open Go.RowKit Fm
set_option linter.unusedVariables false
set_option maxRecDepth 100000

def RetM (y : CK) (w : World) (e : Ending) (w' : World) : Prop :=
 ∃ (ms : List Nat) (A : Option Addr) (cp : Nat), ms.length = y.meas ∧ okEnc y ms ∧ e = .returned (.slice A ms.length cp) ∧ SlU w' w'.heap.size (.slice A ms.length cp) (natsI ms) ∧ Below w.heap.size w w'

theorem run_append_M (w : World) (base : Nat) (ty : TypeId) (v : Value) (n : Nat) (xs : List Int) (hown : w.ownsRow base 22 1 v n (cellsU xs)) (A : Option Addr) (m c : Nat) (ys : List Int)
  (hm : ys.length = m) (hy : 0 < m → ∃ b o, A = some ⟨b, o, none⟩ ∧ RowU w b o ys) (hbound : n + m ≤ 1099511627776) (hbase : base ≤ w.heap.size) :
  ∃ v' w', (Builtin.append_ #[94, 94] ty #[v, .slice A m c]).run Try.prog w = .ok v' w' ∧ w'.ownsRow base 22 1 v' (n + m) (cellsU (xs ++ ys)) ∧ w.grownBy w' v.ownBlock ∧
   (v'.ownBlock = v.ownBlock ∨ v'.ownBlock = some w.heap.size) := by
 obtain ⟨i, hi, hz, h1, h2⟩ := info_parts infoU64
 rw [cellsU_append]
 rcases A with _ | ad
 ·have hm0 : m = 0 := by
   rcases Nat.eq_zero_or_pos m with h0 | h0
   ·exact h0
   ·obtain ⟨b, o, h, _⟩ := hy h0
    cases h
  subst hm0
  obtain rfl : ys = [] := List.eq_nil_of_length_eq_zero hm
  refine ⟨v, w, ?_, by simpa [cellsU] using hown, World.grownBy.refl w _, .inl rfl⟩
  rcases hown.2 with ⟨rfl, rfl⟩ | ⟨g, cap, cur, rfl, _, _, hnc, _⟩
  ·simp [Builtin.append_, run_underlying Try.underlying94, sizeOf, typeInfo, hi, Builtin.lenOf, Builtin.firstCells]
  ·simp [Builtin.append_, run_underlying Try.underlying94, sizeOf, typeInfo, hi, Builtin.lenOf, Builtin.firstCells, hnc, storeCells]
 ·have hcells : ∀ j u, (cellsU ys)[j]? = some u → w.cell? (ad.add j) = some u := by
   intro j u hu
   rcases Nat.eq_zero_or_pos m with h0 | h0
   ·subst h0
    obtain rfl : ys = [] := List.eq_nil_of_length_eq_zero hm
    simp [cellsU] at hu
   ·obtain ⟨b, o, h, hr⟩ := hy h0
    injection h with h
    subst h
    exact hr.cells j u hu
  obtain ⟨v', w', hrun, h3, h4, _, h5⟩ := run_append_own_at (P := Try.prog) w base 94 ty 22 i _ 1 8 Try.underlying94 hi hz h1 h2 rfl (by omega) v n _ hown ad m c (cellsU ys)
   (by rw [length_cellsU, hm, Nat.mul_one]) hcells (oneCell_cellsU ys) (by unfold maxLen; omega) (by omega) hbase
  exact ⟨v', w', hrun, h3, h4, h5⟩

theorem wpList_append_M {w : World} {ops : Array Oper} {rest : List Oper} {o : Oper} {a : Act} {Q : Exit → Act → World → Prop} (hgd : o.guard = none) (s x : Operand)
  (ho : o.op = .call { callee := .builtin .append, args := #[s, x], argTypes := #[94, 94] })
  (base : Nat) (v : Value) (n : Nat) (xs : List Int) (hs : a.eval s = v) (hown : w.ownsRow base 22 1 v n (cellsU xs)) (A : Option Addr) (m c : Nat) (ys : List Int) (hx : a.eval x = .slice A m c)
  (hm : ys.length = m) (hy : 0 < m → ∃ b o, A = some ⟨b, o, none⟩ ∧ RowU w b o ys) (hbound : n + m ≤ 1099511627776) (hbase : base ≤ w.heap.size)
  (h : ∀ v' w', w'.ownsRow base 22 1 v' (n + m) (cellsU (xs ++ ys)) → w.grownBy w' v.ownBlock → (v'.ownBlock = v.ownBlock ∨ v'.ownBlock = some w.heap.size) → wpList Try.prog ops Q rest (a.put o.dst v') w') : wpList Try.prog ops Q (o :: rest) a w := by
 obtain ⟨v', w', hrun, h2, h3, h4⟩ := run_append_M w base o.type v n xs hown A m c ys hm hy hbound hbase
 refine wpList_plain hgd fun K hK => ?_
 unfold Oper.wp execOp
 simp only [ho, resolve, invoke, builtin, Sem.run_bind, Sem.run_pure, Result.andThen_ok, List.map_toArray, List.map_cons, List.map_nil, hs, hx, hrun]
 exact hK _ _ (h v' w' h2 h3 h4)


theorem natsI_append (a b : List Nat) : natsI (a ++ b) = natsI a ++ natsI b := by unfold natsI; rw [List.map_append]
theorem natsI_ok {ms : List Nat} (h : ∀ x, x ∈ ms → x ≤ 18446744073709551615) : ∀ e, e ∈ natsI ms → okU e := by
 intro e he
 unfold natsI at he
 obtain ⟨x, hx, rfl⟩ := List.mem_map.1 he
 have := h x hx
 exact ⟨by omega, by omega⟩
theorem all_snoc {P : Nat → Prop} {ms : List Nat} {d : Nat} (h : ∀ x, x ∈ ms → P x) (hd : P d) : ∀ x, x ∈ ms ++ [d] → P x := by
 intro x hx
 rcases List.mem_append.1 hx with h1 | h1
 ·exact h x h1
 ·rw [List.mem_singleton.1 h1]
  exact hd

set_option maxHeartbeats 8000000 in
theorem law10_Measure_count_zero {f : Nat} (hf : IsF f) (hy : (CK.count).ok) (vl : Value) (xs : List Int) (w : World) (hl : SlU w w.heap.size vl xs) (hl100 : xs.length ≤ 1000000) (hl0 : xs.length = 0) :
  Calls Try.prog 34 #[CK.val f .count, vl] w (RetM .count w) := by
 have HO : Hid (∀ wz, Calls Try.prog 32 #[CK.val f .count] wz fun e w' => e = .returned (.int .i64 1) ∧ Below wz.heap.size wz w') := fun wz => circuit_Out f .count hy wz
 rw [val_count] at HO ⊢
 obtain ⟨⟨A, cc, rfl, hcc, hcm, hA⟩, hok⟩ := hl
 have hfb0 : (1 : Int) ≤ (f : Int) := by rcases hf.or with rfl | rfl <;> omega
 have hfb1 : (f : Int) ≤ 2 := by rcases hf.or with rfl | rfl <;> omega
 have hb00 : Below w.heap.size w w := Below.refl _ _
 clear hy
 obtain rfl : xs = [] := List.eq_nil_of_length_eq_zero hl0
 rw [show ([] : List Int).length = 0 from rfl]
 clear hA hok hl100 hl0
 go_enter Try.func34, Try.ntmps34
 go_upto_region 1 with fail
 have hx := Vs.new w [.int .u8 1, .int .u8 f, .int .i64 0, .int .i64 0, .int .i64 0, .int .i64 0] #[.int .u8 1, .int .u8 f, .int .i64 0, .int .i64 0, .int .i64 0, .int .i64 0] 60 rfl
 have hbA : Below w.heap.size w (w.alloc (.cells #[.int .u8 1, .int .u8 f, .int .i64 0, .int .i64 0, .int .i64 0, .int .i64 0] 60)) := by repeat (first | exact bA | with_reducible assumption | apply bB)
 replace hb00 := bl_call hb00 (Nat.le_refl _) hbA
 clear hbA
 generalize w.alloc (.cells #[.int .u8 1, .int .u8 f, .int .i64 0, .int .i64 0, .int .i64 0, .int .i64 0] 60) = w1 at hb00 hx ⊢
 obtain ⟨⟨x0, x1, x2, x3, x4, x5⟩, ⟨x6, x7, x8, x9, x10, x11⟩, x12⟩ := hx.get6
 go_upto_region 6 with (first
  | (go_at_call 32; refine (HO.out _).mono ?_; rintro e w2 ⟨rfl, hb2⟩; replace hb00 := bl_call hb00 (Nat.le_refl _) hb2; replace hx := hx.call hb2; clear x0 x1 x2 x3 x4 x5 x6 x7 x8 x9 x10 x11 x12; clear hb2; obtain ⟨⟨x0, x1, x2, x3, x4, x5⟩, ⟨x6, x7, x8, x9, x10, x11⟩, x12⟩ := hx.get6))
 have hsz : w.heap.size + 1 ≤ w2.heap.size := hx.lt
 clear HO
 clear x0 x1 x2 x3 x4 x5 x6 x7 x8 x9 x10 x11 x12
 go_wp2_with fail
 go_loopw [5, 7, 16] (fun v5 v7 i wr => ∃ (k s : Nat) (ms : List Nat) (A' : Option Addr) (cp : Nat), k ≤ 1 ∧ Hid (ms.length = k) ∧ i = .int .i64 k ∧ v5 = .slice A' k cp ∧ v7 = .int .i64 s ∧ s ≤ k ∧ Hid (∀ x, x ∈ ms → x ≤ 1) ∧
   Vs wr w.heap.size [.int .u8 1, .int .u8 f, .int .i64 0, .int .i64 0, .int .i64 0, .int .i64 0] ∧ wr.ownsRow (w.heap.size + 1) 22 1 (.slice A' k cp) k (cellsU (natsI ms)) ∧ Below w.heap.size w wr ∧ w.heap.size + 1 ≤ wr.heap.size) (fun _ _ i _ => 1 - (intOf i).toNat)
 case atStart => exact ⟨0, 0, [], none, 0, Nat.zero_le _, rfl, rfl, rfl, rfl, Nat.le_refl _, fun x h => (by simp at h), hx, World.ownsRow_nil _ _ _ _, hb00, hsz⟩
 case round =>
  clear hx hb00 hsz
  obtain ⟨k, s, ms, A', cp, hk, HL, rfl, rfl, rfl, hsk, hP, hx, hown, hbw, hsz⟩ := hrel
  by_cases hlt : k < 1
  ·skip
   have hz1 : (0 : Int).tmod (2) = 0 := Int.zero_tmod _
   have hz2 : (0 : Int) % (2) = 0 := Int.zero_emod _
   skip
   go_upto_region 12 with fail
   obtain ⟨⟨x0, x1, x2, x3, x4, x5⟩, ⟨x6, x7, x8, x9, x10, x11⟩, x12⟩ := hx.get6
   have HOW := Lib.hid (hown.alloc (.cells #[.int .u64 0] 22))
   have hbase : w.heap.size + 1 ≤ (wr.alloc (.cells #[.int .u64 0] 22)).heap.size := by rw [World.size_alloc]; omega
   have HR1 : Hid (0 < 1 → ∃ b o, (some ⟨wr.heap.size, 0, none⟩ : Option Addr) = some ⟨b, o, none⟩ ∧ RowU (wr.alloc (.cells #[.int .u64 0] 22)) b o [(0 : Int)]) := by
    intro _
    refine ⟨_, _, rfl, fun i e hi => ?_⟩
    have hV := Vs.new wr [.int .u64 0] #[.int .u64 0] 22 rfl
    match i, hi with
    | 0, hi =>
     obtain rfl : (0 : Int) = e := by simpa using hi
     exact hV.cell 0 _ rfl
    | i + 1, hi => simp at hi
   have hk1 : k + 1 ≤ 1099511627776 := by omega
   obtain ⟨zs, hzs⟩ : ∃ zs, natsI ms = zs := ⟨_, rfl⟩
   rw [hzs] at HOW
   have HZ := Lib.hid hzs
   clear hzs
   go_wp2_with (at_builtin; (refine wpList_append_M rfl (.tmp 64) (.tmp 66) rfl (w.heap.size + 1) _ k zs rfl HOW.out (some ⟨wr.heap.size, 0, none⟩) 1 1 [(0 : Int)] rfl rfl HR1.out hk1 hbase ?_; intro v2 w7 hown7 hg7 hat7; have hb7 : Below (w.heap.size + 1) (wr.alloc (.cells #[.int .u64 0] 22)) w7 := (Below.refl _ _).grown hg7 hbase (fun q hq => (HOW.out.lt q hq).1); obtain ⟨g2, cap2, hv2⟩ := own_slice hown7; rw [hv2]))
   rw [hv2, ← HZ.out, show natsI ms ++ [(0 : Int)] = natsI (ms ++ [0]) from (natsI_append ms [0]).symm] at hown7
   have hx7 := (hx.alloc (.cells #[.int .u64 0] 22)).belowB hb7 (by omega)
   have hbw7 : Below w.heap.size w w7 := (hbw.alloc (by have := hbw.size; omega) (.cells #[.int .u64 0] 22)).trans (hb7.mono (by omega))
   have hz7 := hb7.size
   have HL7 : Hid ((ms ++ [0]).length = k + 1) := by show (ms ++ [0]).length = k + 1; rw [List.length_append, HL.out]; rfl
   skip
   go_roundw
   case rel => exact ⟨k + 1, s, ms ++ [0], _, cap2, by omega, HL7.out, by go_num, rfl, by go_num, by omega, all_snoc hP.out (by omega), hx7, hown7, hbw7, by omega⟩
   case measure => simp [intOf]; omega
  ·obtain rfl : k = 1 := by omega
   go_wp2_with fail
   go_ret
   have hlen : (natsI ms).length = 1 := by rw [natsI_length]; exact HL.out
   refine ⟨ms, A', cp, HL.out, hP.out, by rw [HL.out]; rfl, ?_, hbw⟩
   have h := SlU.of_own (xs := natsI ms) (by rw [hlen]; exact hown) (natsI_ok fun x hx9 => by have := hP.out x hx9; omega)
   rw [HL.out]
   exact h

set_option maxHeartbeats 8000000 in
theorem law10_Measure_count_some {f : Nat} (hf : IsF f) (hy : (CK.count).ok) (vl : Value) (xs : List Int) (w : World) (hl : SlU w w.heap.size vl xs) (hl100 : xs.length ≤ 1000000) (hl0 : ¬ xs.length = 0) :
  Calls Try.prog 34 #[CK.val f .count, vl] w (RetM .count w) := by
 have HO : Hid (∀ wz, Calls Try.prog 32 #[CK.val f .count] wz fun e w' => e = .returned (.int .i64 1) ∧ Below wz.heap.size wz w') := fun wz => circuit_Out f .count hy wz
 rw [val_count] at HO ⊢
 obtain ⟨⟨A, cc, rfl, hcc, hcm, hA⟩, hok⟩ := hl
 have hfb0 : (1 : Int) ≤ (f : Int) := by rcases hf.or with rfl | rfl <;> omega
 have hfb1 : (f : Int) ≤ 2 := by rcases hf.or with rfl | rfl <;> omega
 have hb00 : Below w.heap.size w w := Below.refl _ _
 clear hy
 go_enter Try.func34, Try.ntmps34
 go_upto_region 1 with fail
 have hx := Vs.new w [.int .u8 1, .int .u8 f, .int .i64 0, .int .i64 0, .int .i64 0, .int .i64 0] #[.int .u8 1, .int .u8 f, .int .i64 0, .int .i64 0, .int .i64 0, .int .i64 0] 60 rfl
 have hbA : Below w.heap.size w (w.alloc (.cells #[.int .u8 1, .int .u8 f, .int .i64 0, .int .i64 0, .int .i64 0, .int .i64 0] 60)) := by repeat (first | exact bA | with_reducible assumption | apply bB)
 replace hb00 := bl_call hb00 (Nat.le_refl _) hbA
 clear hbA
 generalize w.alloc (.cells #[.int .u8 1, .int .u8 f, .int .i64 0, .int .i64 0, .int .i64 0, .int .i64 0] 60) = w1 at hb00 hx ⊢
 obtain ⟨⟨x0, x1, x2, x3, x4, x5⟩, ⟨x6, x7, x8, x9, x10, x11⟩, x12⟩ := hx.get6
 go_upto_region 6 with (first
  | (go_at_call 32; refine (HO.out _).mono ?_; rintro e w2 ⟨rfl, hb2⟩; replace hb00 := bl_call hb00 (Nat.le_refl _) hb2; replace hx := hx.call hb2; clear x0 x1 x2 x3 x4 x5 x6 x7 x8 x9 x10 x11 x12; clear hb2; obtain ⟨⟨x0, x1, x2, x3, x4, x5⟩, ⟨x6, x7, x8, x9, x10, x11⟩, x12⟩ := hx.get6))
 have hsz : w.heap.size + 1 ≤ w2.heap.size := hx.lt
 clear HO
 clear x0 x1 x2 x3 x4 x5 x6 x7 x8 x9 x10 x11 x12
 go_wp2_with fail
 go_loopw [5, 7, 16] (fun v5 v7 i wr => ∃ (k s : Nat) (ms : List Nat) (A' : Option Addr) (cp : Nat), k ≤ 1 ∧ Hid (ms.length = k) ∧ i = .int .i64 k ∧ v5 = .slice A' k cp ∧ v7 = .int .i64 s ∧ s ≤ k ∧ Hid (∀ x, x ∈ ms → x ≤ 1) ∧
   Vs wr w.heap.size [.int .u8 1, .int .u8 f, .int .i64 0, .int .i64 0, .int .i64 0, .int .i64 0] ∧ wr.ownsRow (w.heap.size + 1) 22 1 (.slice A' k cp) k (cellsU (natsI ms)) ∧ Below w.heap.size w wr ∧ w.heap.size + 1 ≤ wr.heap.size) (fun _ _ i _ => 1 - (intOf i).toNat)
 case atStart => exact ⟨0, 0, [], none, 0, Nat.zero_le _, rfl, rfl, rfl, rfl, Nat.le_refl _, fun x h => (by simp at h), hx, World.ownsRow_nil _ _ _ _, hb00, hsz⟩
 case round =>
  clear hx hb00 hsz
  obtain ⟨k, s, ms, A', cp, hk, HL, rfl, rfl, rfl, hsk, hP, hx, hown, hbw, hsz⟩ := hrel
  by_cases hlt : k < 1
  ·have hd0 : decide ((0 : Int) < (xs.length : Int)) = true := decide_eq_true (by omega)
   obtain ⟨b9, o9, rfl, hB, hr⟩ := hA (by omega)
   have hjm : k % xs.length < xs.length := Nat.mod_lt _ (by omega)
   obtain ⟨e9, he⟩ : ∃ e, xs[k % xs.length]? = some e := ⟨_, List.getElem?_eq_getElem hjm⟩
   have d0 := (hr.below hbw hB) _ _ he
   obtain ⟨h0, h1⟩ := hok _ (List.mem_of_getElem? he)
   obtain ⟨X, rfl⟩ : ∃ X : Nat, e9 = (X : Int) := ⟨e9.toNat, by omega⟩
   have hX64 : X ≤ 18446744073709551615 := by omega
   have hjn : 0 ≤ (k : Int) % (xs.length : Int) := Int.emod_nonneg _ (by omega)
   have hjl : (k : Int) % (xs.length : Int) < (xs.length : Int) := Int.emod_lt_of_pos _ (by omega)
   have hjt : ((k : Int) % (xs.length : Int)).toNat = k % xs.length := by rw [← Int.natCast_emod, Int.toNat_natCast]
   have hjd : (k : Int).tmod (xs.length : Int) = (k : Int) % (xs.length : Int) := Int.tmod_eq_emod_of_nonneg (by omega)
   clear he hr hA
   go_upto_region 12 with fail
   clear d0 hjn hjl hjt hjd hjm
   obtain ⟨d, hd1, hdl⟩ : ∃ d : Nat, (X : Int) % 2 = (d : Int) ∧ d < 2 := ⟨X % 2, by rw [Int.natCast_emod]; rfl, Nat.mod_lt _ (by omega)⟩
   have hd2 : (X : Int).tmod 2 = (d : Int) := by rw [Int.tmod_eq_emod_of_nonneg (by omega)]; exact hd1
   have hd64 : IntKind.u64.wrap (d : Int) = (d : Int) := IntWalk.u64_in _ (by omega)
   have hdi : IntKind.i64.wrap (d : Int) = (d : Int) := IntWalk.i64_in _ (by omega)
   obtain ⟨⟨x0, x1, x2, x3, x4, x5⟩, ⟨x6, x7, x8, x9, x10, x11⟩, x12⟩ := hx.get6
   have HOW := Lib.hid (hown.alloc (.cells #[.int .u64 d] 22))
   have hbase : w.heap.size + 1 ≤ (wr.alloc (.cells #[.int .u64 d] 22)).heap.size := by rw [World.size_alloc]; omega
   have HR1 : Hid (0 < 1 → ∃ b o, (some ⟨wr.heap.size, 0, none⟩ : Option Addr) = some ⟨b, o, none⟩ ∧ RowU (wr.alloc (.cells #[.int .u64 d] 22)) b o [(d : Int)]) := by
    intro _
    refine ⟨_, _, rfl, fun i e hi => ?_⟩
    have hV := Vs.new wr [.int .u64 d] #[.int .u64 d] 22 rfl
    match i, hi with
    | 0, hi =>
     obtain rfl : (d : Int) = e := by simpa using hi
     exact hV.cell 0 _ rfl
    | i + 1, hi => simp at hi
   have hk1 : k + 1 ≤ 1099511627776 := by omega
   obtain ⟨zs, hzs⟩ : ∃ zs, natsI ms = zs := ⟨_, rfl⟩
   rw [hzs] at HOW
   have HZ := Lib.hid hzs
   clear hzs
   go_wp2_with (at_builtin; (refine wpList_append_M rfl (.tmp 64) (.tmp 66) rfl (w.heap.size + 1) _ k zs rfl HOW.out (some ⟨wr.heap.size, 0, none⟩) 1 1 [(d : Int)] rfl rfl HR1.out hk1 hbase ?_; intro v2 w7 hown7 hg7 hat7; have hb7 : Below (w.heap.size + 1) (wr.alloc (.cells #[.int .u64 d] 22)) w7 := (Below.refl _ _).grown hg7 hbase (fun q hq => (HOW.out.lt q hq).1); obtain ⟨g2, cap2, hv2⟩ := own_slice hown7; rw [hv2]))
   rw [hv2, ← HZ.out, show natsI ms ++ [(d : Int)] = natsI (ms ++ [d]) from (natsI_append ms [d]).symm] at hown7
   have hx7 := (hx.alloc (.cells #[.int .u64 d] 22)).belowB hb7 (by omega)
   have hbw7 : Below w.heap.size w w7 := (hbw.alloc (by have := hbw.size; omega) (.cells #[.int .u64 d] 22)).trans (hb7.mono (by omega))
   have hz7 := hb7.size
   have HL7 : Hid ((ms ++ [d]).length = k + 1) := by show (ms ++ [d]).length = k + 1; rw [List.length_append, HL.out]; rfl
   go_roundw
   case rel => exact ⟨k + 1, s + d, ms ++ [d], _, cap2, by omega, HL7.out, by go_num, rfl, by go_num, by omega, all_snoc hP.out (by omega), hx7, hown7, hbw7, by omega⟩
   case measure => simp [intOf]; omega
  ·obtain rfl : k = 1 := by omega
   go_wp2_with fail
   go_ret
   have hlen : (natsI ms).length = 1 := by rw [natsI_length]; exact HL.out
   refine ⟨ms, A', cp, HL.out, hP.out, by rw [HL.out]; rfl, ?_, hbw⟩
   have h := SlU.of_own (xs := natsI ms) (by rw [hlen]; exact hown) (natsI_ok fun x hx9 => by have := hP.out x hx9; omega)
   rw [HL.out]
   exact h

theorem law10_Measure_count {f : Nat} (hf : IsF f) (hy : (CK.count).ok) (vl : Value) (xs : List Int) (w : World) (hl : SlU w w.heap.size vl xs) (hl100 : xs.length ≤ 1000000) :
  Calls Try.prog 34 #[CK.val f .count, vl] w (RetM .count w) := by
 by_cases hl0 : xs.length = 0
 ·exact law10_Measure_count_zero hf  hy vl xs w hl hl100 hl0
 ·exact law10_Measure_count_some hf  hy vl xs w hl hl100 hl0

set_option maxHeartbeats 8000000 in
theorem law10_Measure_sum_zero {f : Nat} (hf : IsF f) (b : Nat) (hy : (CK.sum b).ok) (vl : Value) (xs : List Int) (w : World) (hl : SlU w w.heap.size vl xs) (hl100 : xs.length ≤ 1000000) (hl0 : xs.length = 0) :
  Calls Try.prog 34 #[CK.val f (.sum b), vl] w (RetM (.sum b) w) := by
 have HO : Hid (∀ wz, Calls Try.prog 32 #[CK.val f (.sum b)] wz fun e w' => e = .returned (.int .i64 1) ∧ Below wz.heap.size wz w') := fun wz => circuit_Out f (.sum b) hy wz
 rw [val_sum] at HO ⊢
 obtain ⟨⟨A, cc, rfl, hcc, hcm, hA⟩, hok⟩ := hl
 have hfb0 : (1 : Int) ≤ (f : Int) := by rcases hf.or with rfl | rfl <;> omega
 have hfb1 : (f : Int) ≤ 2 := by rcases hf.or with rfl | rfl <;> omega
 have hp2 := pow32 hy.2
 obtain ⟨p, hp⟩ : ∃ p, 2 ^ b = p := ⟨_, rfl⟩
 have hpow : (2 : Int) ^ b = (p : Int) := by rw [← hp]; exact (Int.natCast_pow 2 b).symm
 rw [hp] at hp2
 have HPP := Lib.hid hp
 have hb32 : b ≤ 32 := hy.2
 clear hp
 have hb00 : Below w.heap.size w w := Below.refl _ _
 clear hy
 obtain rfl : xs = [] := List.eq_nil_of_length_eq_zero hl0
 rw [show ([] : List Int).length = 0 from rfl]
 clear hA hok hl100 hl0
 go_enter Try.func34, Try.ntmps34
 go_upto_region 1 with fail
 have hx := Vs.new w [.int .u8 2, .int .u8 f, .int .i64 b, .int .i64 0, .int .i64 0, .int .i64 0] #[.int .u8 2, .int .u8 f, .int .i64 b, .int .i64 0, .int .i64 0, .int .i64 0] 60 rfl
 have hbA : Below w.heap.size w (w.alloc (.cells #[.int .u8 2, .int .u8 f, .int .i64 b, .int .i64 0, .int .i64 0, .int .i64 0] 60)) := by repeat (first | exact bA | with_reducible assumption | apply bB)
 replace hb00 := bl_call hb00 (Nat.le_refl _) hbA
 clear hbA
 generalize w.alloc (.cells #[.int .u8 2, .int .u8 f, .int .i64 b, .int .i64 0, .int .i64 0, .int .i64 0] 60) = w1 at hb00 hx ⊢
 obtain ⟨⟨x0, x1, x2, x3, x4, x5⟩, ⟨x6, x7, x8, x9, x10, x11⟩, x12⟩ := hx.get6
 go_upto_region 6 with (first
  | (go_at_call 32; refine (HO.out _).mono ?_; rintro e w2 ⟨rfl, hb2⟩; replace hb00 := bl_call hb00 (Nat.le_refl _) hb2; replace hx := hx.call hb2; clear x0 x1 x2 x3 x4 x5 x6 x7 x8 x9 x10 x11 x12; clear hb2; obtain ⟨⟨x0, x1, x2, x3, x4, x5⟩, ⟨x6, x7, x8, x9, x10, x11⟩, x12⟩ := hx.get6))
 have hsz : w.heap.size + 1 ≤ w2.heap.size := hx.lt
 clear HO
 clear x0 x1 x2 x3 x4 x5 x6 x7 x8 x9 x10 x11 x12
 go_wp2_with fail
 go_loopw [5, 7, 16] (fun v5 v7 i wr => ∃ (k s : Nat) (ms : List Nat) (A' : Option Addr) (cp : Nat), k ≤ 1 ∧ Hid (ms.length = k) ∧ i = .int .i64 k ∧ v5 = .slice A' k cp ∧ v7 = .int .i64 s ∧ s ≤ k ∧ Hid (∀ x, x ∈ ms → x < 2 ^ b) ∧
   Vs wr w.heap.size [.int .u8 2, .int .u8 f, .int .i64 b, .int .i64 0, .int .i64 0, .int .i64 0] ∧ wr.ownsRow (w.heap.size + 1) 22 1 (.slice A' k cp) k (cellsU (natsI ms)) ∧ Below w.heap.size w wr ∧ w.heap.size + 1 ≤ wr.heap.size) (fun _ _ i _ => 1 - (intOf i).toNat)
 case atStart => exact ⟨0, 0, [], none, 0, Nat.zero_le _, rfl, rfl, rfl, rfl, Nat.le_refl _, fun x h => (by simp at h), hx, World.ownsRow_nil _ _ _ _, hb00, hsz⟩
 case round =>
  clear hx hb00 hsz
  obtain ⟨k, s, ms, A', cp, hk, HL, rfl, rfl, rfl, hsk, hP, hx, hown, hbw, hsz⟩ := hrel
  by_cases hlt : k < 1
  ·skip
   have hz1 : (0 : Int).tmod ((p : Int)) = 0 := Int.zero_tmod _
   have hz2 : (0 : Int) % ((p : Int)) = 0 := Int.zero_emod _
   skip
   go_upto_region 12 with fail
   obtain ⟨⟨x0, x1, x2, x3, x4, x5⟩, ⟨x6, x7, x8, x9, x10, x11⟩, x12⟩ := hx.get6
   have HOW := Lib.hid (hown.alloc (.cells #[.int .u64 0] 22))
   have hbase : w.heap.size + 1 ≤ (wr.alloc (.cells #[.int .u64 0] 22)).heap.size := by rw [World.size_alloc]; omega
   have HR1 : Hid (0 < 1 → ∃ b o, (some ⟨wr.heap.size, 0, none⟩ : Option Addr) = some ⟨b, o, none⟩ ∧ RowU (wr.alloc (.cells #[.int .u64 0] 22)) b o [(0 : Int)]) := by
    intro _
    refine ⟨_, _, rfl, fun i e hi => ?_⟩
    have hV := Vs.new wr [.int .u64 0] #[.int .u64 0] 22 rfl
    match i, hi with
    | 0, hi =>
     obtain rfl : (0 : Int) = e := by simpa using hi
     exact hV.cell 0 _ rfl
    | i + 1, hi => simp at hi
   have hk1 : k + 1 ≤ 1099511627776 := by omega
   obtain ⟨zs, hzs⟩ : ∃ zs, natsI ms = zs := ⟨_, rfl⟩
   rw [hzs] at HOW
   have HZ := Lib.hid hzs
   clear hzs
   go_wp2_with (at_builtin; (refine wpList_append_M rfl (.tmp 64) (.tmp 66) rfl (w.heap.size + 1) _ k zs rfl HOW.out (some ⟨wr.heap.size, 0, none⟩) 1 1 [(0 : Int)] rfl rfl HR1.out hk1 hbase ?_; intro v2 w7 hown7 hg7 hat7; have hb7 : Below (w.heap.size + 1) (wr.alloc (.cells #[.int .u64 0] 22)) w7 := (Below.refl _ _).grown hg7 hbase (fun q hq => (HOW.out.lt q hq).1); obtain ⟨g2, cap2, hv2⟩ := own_slice hown7; rw [hv2]))
   rw [hv2, ← HZ.out, show natsI ms ++ [(0 : Int)] = natsI (ms ++ [0]) from (natsI_append ms [0]).symm] at hown7
   have hx7 := (hx.alloc (.cells #[.int .u64 0] 22)).belowB hb7 (by omega)
   have hbw7 : Below w.heap.size w w7 := (hbw.alloc (by have := hbw.size; omega) (.cells #[.int .u64 0] 22)).trans (hb7.mono (by omega))
   have hz7 := hb7.size
   have HL7 : Hid ((ms ++ [0]).length = k + 1) := by show (ms ++ [0]).length = k + 1; rw [List.length_append, HL.out]; rfl
   skip
   go_roundw
   case rel => exact ⟨k + 1, s, ms ++ [0], _, cap2, by omega, HL7.out, by go_num, rfl, by go_num, by omega, all_snoc hP.out (by rw [HPP.out]; omega), hx7, hown7, hbw7, by omega⟩
   case measure => simp [intOf]; omega
  ·obtain rfl : k = 1 := by omega
   go_wp2_with fail
   go_ret
   have hlen : (natsI ms).length = 1 := by rw [natsI_length]; exact HL.out
   refine ⟨ms, A', cp, HL.out, hP.out, by rw [HL.out]; rfl, ?_, hbw⟩
   have h := SlU.of_own (xs := natsI ms) (by rw [hlen]; exact hown) (natsI_ok fun x hx9 => by have := hP.out x hx9; rw [HPP.out] at this; omega)
   rw [HL.out]
   exact h

set_option maxHeartbeats 8000000 in
theorem law10_Measure_sum_some {f : Nat} (hf : IsF f) (b : Nat) (hy : (CK.sum b).ok) (vl : Value) (xs : List Int) (w : World) (hl : SlU w w.heap.size vl xs) (hl100 : xs.length ≤ 1000000) (hl0 : ¬ xs.length = 0) :
  Calls Try.prog 34 #[CK.val f (.sum b), vl] w (RetM (.sum b) w) := by
 have HO : Hid (∀ wz, Calls Try.prog 32 #[CK.val f (.sum b)] wz fun e w' => e = .returned (.int .i64 1) ∧ Below wz.heap.size wz w') := fun wz => circuit_Out f (.sum b) hy wz
 rw [val_sum] at HO ⊢
 obtain ⟨⟨A, cc, rfl, hcc, hcm, hA⟩, hok⟩ := hl
 have hfb0 : (1 : Int) ≤ (f : Int) := by rcases hf.or with rfl | rfl <;> omega
 have hfb1 : (f : Int) ≤ 2 := by rcases hf.or with rfl | rfl <;> omega
 have hp2 := pow32 hy.2
 obtain ⟨p, hp⟩ : ∃ p, 2 ^ b = p := ⟨_, rfl⟩
 have hpow : (2 : Int) ^ b = (p : Int) := by rw [← hp]; exact (Int.natCast_pow 2 b).symm
 rw [hp] at hp2
 have HPP := Lib.hid hp
 have hb32 : b ≤ 32 := hy.2
 clear hp
 have hb00 : Below w.heap.size w w := Below.refl _ _
 clear hy
 go_enter Try.func34, Try.ntmps34
 go_upto_region 1 with fail
 have hx := Vs.new w [.int .u8 2, .int .u8 f, .int .i64 b, .int .i64 0, .int .i64 0, .int .i64 0] #[.int .u8 2, .int .u8 f, .int .i64 b, .int .i64 0, .int .i64 0, .int .i64 0] 60 rfl
 have hbA : Below w.heap.size w (w.alloc (.cells #[.int .u8 2, .int .u8 f, .int .i64 b, .int .i64 0, .int .i64 0, .int .i64 0] 60)) := by repeat (first | exact bA | with_reducible assumption | apply bB)
 replace hb00 := bl_call hb00 (Nat.le_refl _) hbA
 clear hbA
 generalize w.alloc (.cells #[.int .u8 2, .int .u8 f, .int .i64 b, .int .i64 0, .int .i64 0, .int .i64 0] 60) = w1 at hb00 hx ⊢
 obtain ⟨⟨x0, x1, x2, x3, x4, x5⟩, ⟨x6, x7, x8, x9, x10, x11⟩, x12⟩ := hx.get6
 go_upto_region 6 with (first
  | (go_at_call 32; refine (HO.out _).mono ?_; rintro e w2 ⟨rfl, hb2⟩; replace hb00 := bl_call hb00 (Nat.le_refl _) hb2; replace hx := hx.call hb2; clear x0 x1 x2 x3 x4 x5 x6 x7 x8 x9 x10 x11 x12; clear hb2; obtain ⟨⟨x0, x1, x2, x3, x4, x5⟩, ⟨x6, x7, x8, x9, x10, x11⟩, x12⟩ := hx.get6))
 have hsz : w.heap.size + 1 ≤ w2.heap.size := hx.lt
 clear HO
 clear x0 x1 x2 x3 x4 x5 x6 x7 x8 x9 x10 x11 x12
 go_wp2_with fail
 go_loopw [5, 7, 16] (fun v5 v7 i wr => ∃ (k s : Nat) (ms : List Nat) (A' : Option Addr) (cp : Nat), k ≤ 1 ∧ Hid (ms.length = k) ∧ i = .int .i64 k ∧ v5 = .slice A' k cp ∧ v7 = .int .i64 s ∧ s ≤ k ∧ Hid (∀ x, x ∈ ms → x < 2 ^ b) ∧
   Vs wr w.heap.size [.int .u8 2, .int .u8 f, .int .i64 b, .int .i64 0, .int .i64 0, .int .i64 0] ∧ wr.ownsRow (w.heap.size + 1) 22 1 (.slice A' k cp) k (cellsU (natsI ms)) ∧ Below w.heap.size w wr ∧ w.heap.size + 1 ≤ wr.heap.size) (fun _ _ i _ => 1 - (intOf i).toNat)
 case atStart => exact ⟨0, 0, [], none, 0, Nat.zero_le _, rfl, rfl, rfl, rfl, Nat.le_refl _, fun x h => (by simp at h), hx, World.ownsRow_nil _ _ _ _, hb00, hsz⟩
 case round =>
  clear hx hb00 hsz
  obtain ⟨k, s, ms, A', cp, hk, HL, rfl, rfl, rfl, hsk, hP, hx, hown, hbw, hsz⟩ := hrel
  by_cases hlt : k < 1
  ·have hd0 : decide ((0 : Int) < (xs.length : Int)) = true := decide_eq_true (by omega)
   obtain ⟨b9, o9, rfl, hB, hr⟩ := hA (by omega)
   have hjm : k % xs.length < xs.length := Nat.mod_lt _ (by omega)
   obtain ⟨e9, he⟩ : ∃ e, xs[k % xs.length]? = some e := ⟨_, List.getElem?_eq_getElem hjm⟩
   have d0 := (hr.below hbw hB) _ _ he
   obtain ⟨h0, h1⟩ := hok _ (List.mem_of_getElem? he)
   obtain ⟨X, rfl⟩ : ∃ X : Nat, e9 = (X : Int) := ⟨e9.toNat, by omega⟩
   have hX64 : X ≤ 18446744073709551615 := by omega
   have hjn : 0 ≤ (k : Int) % (xs.length : Int) := Int.emod_nonneg _ (by omega)
   have hjl : (k : Int) % (xs.length : Int) < (xs.length : Int) := Int.emod_lt_of_pos _ (by omega)
   have hjt : ((k : Int) % (xs.length : Int)).toNat = k % xs.length := by rw [← Int.natCast_emod, Int.toNat_natCast]
   have hjd : (k : Int).tmod (xs.length : Int) = (k : Int) % (xs.length : Int) := Int.tmod_eq_emod_of_nonneg (by omega)
   clear he hr hA
   go_upto_region 12 with fail
   clear d0 hjn hjl hjt hjd hjm
   obtain ⟨d, hd1, hdl⟩ : ∃ d : Nat, (X : Int) % (p : Int) = (d : Int) ∧ d < p := ⟨X % p, by rw [Int.natCast_emod], Nat.mod_lt _ (by omega)⟩
   have hd2 : (X : Int).tmod (p : Int) = (d : Int) := by rw [Int.tmod_eq_emod_of_nonneg (by omega)]; exact hd1
   have hd64 : IntKind.u64.wrap (d : Int) = (d : Int) := IntWalk.u64_in _ (by omega)
   have hdi : IntKind.i64.wrap (d : Int) = (d : Int) := IntWalk.i64_in _ (by omega)
   obtain ⟨⟨x0, x1, x2, x3, x4, x5⟩, ⟨x6, x7, x8, x9, x10, x11⟩, x12⟩ := hx.get6
   have HOW := Lib.hid (hown.alloc (.cells #[.int .u64 d] 22))
   have hbase : w.heap.size + 1 ≤ (wr.alloc (.cells #[.int .u64 d] 22)).heap.size := by rw [World.size_alloc]; omega
   have HR1 : Hid (0 < 1 → ∃ b o, (some ⟨wr.heap.size, 0, none⟩ : Option Addr) = some ⟨b, o, none⟩ ∧ RowU (wr.alloc (.cells #[.int .u64 d] 22)) b o [(d : Int)]) := by
    intro _
    refine ⟨_, _, rfl, fun i e hi => ?_⟩
    have hV := Vs.new wr [.int .u64 d] #[.int .u64 d] 22 rfl
    match i, hi with
    | 0, hi =>
     obtain rfl : (d : Int) = e := by simpa using hi
     exact hV.cell 0 _ rfl
    | i + 1, hi => simp at hi
   have hk1 : k + 1 ≤ 1099511627776 := by omega
   obtain ⟨zs, hzs⟩ : ∃ zs, natsI ms = zs := ⟨_, rfl⟩
   rw [hzs] at HOW
   have HZ := Lib.hid hzs
   clear hzs
   go_wp2_with (at_builtin; (refine wpList_append_M rfl (.tmp 64) (.tmp 66) rfl (w.heap.size + 1) _ k zs rfl HOW.out (some ⟨wr.heap.size, 0, none⟩) 1 1 [(d : Int)] rfl rfl HR1.out hk1 hbase ?_; intro v2 w7 hown7 hg7 hat7; have hb7 : Below (w.heap.size + 1) (wr.alloc (.cells #[.int .u64 d] 22)) w7 := (Below.refl _ _).grown hg7 hbase (fun q hq => (HOW.out.lt q hq).1); obtain ⟨g2, cap2, hv2⟩ := own_slice hown7; rw [hv2]))
   rw [hv2, ← HZ.out, show natsI ms ++ [(d : Int)] = natsI (ms ++ [d]) from (natsI_append ms [d]).symm] at hown7
   have hx7 := (hx.alloc (.cells #[.int .u64 d] 22)).belowB hb7 (by omega)
   have hbw7 : Below w.heap.size w w7 := (hbw.alloc (by have := hbw.size; omega) (.cells #[.int .u64 d] 22)).trans (hb7.mono (by omega))
   have hz7 := hb7.size
   have HL7 : Hid ((ms ++ [d]).length = k + 1) := by show (ms ++ [d]).length = k + 1; rw [List.length_append, HL.out]; rfl
   go_roundw
   case rel => exact ⟨k + 1, s, ms ++ [d], _, cap2, by omega, HL7.out, by go_num, rfl, rfl, by omega, all_snoc hP.out (by rw [HPP.out]; exact hdl), hx7, hown7, hbw7, by omega⟩
   case measure => simp [intOf]; omega
  ·obtain rfl : k = 1 := by omega
   go_wp2_with fail
   go_ret
   have hlen : (natsI ms).length = 1 := by rw [natsI_length]; exact HL.out
   refine ⟨ms, A', cp, HL.out, hP.out, by rw [HL.out]; rfl, ?_, hbw⟩
   have h := SlU.of_own (xs := natsI ms) (by rw [hlen]; exact hown) (natsI_ok fun x hx9 => by have := hP.out x hx9; rw [HPP.out] at this; omega)
   rw [HL.out]
   exact h

theorem law10_Measure_sum {f : Nat} (hf : IsF f) (b : Nat) (hy : (CK.sum b).ok) (vl : Value) (xs : List Int) (w : World) (hl : SlU w w.heap.size vl xs) (hl100 : xs.length ≤ 1000000) :
  Calls Try.prog 34 #[CK.val f (.sum b), vl] w (RetM (.sum b) w) := by
 by_cases hl0 : xs.length = 0
 ·exact law10_Measure_sum_zero hf b hy vl xs w hl hl100 hl0
 ·exact law10_Measure_sum_some hf b hy vl xs w hl hl100 hl0

set_option maxHeartbeats 8000000 in
theorem law10_Measure_vec_zero {f : Nat} (hf : IsF f) (b l c : Nat) (hy : (CK.vec b l c).ok) (vl : Value) (xs : List Int) (w : World) (hl : SlU w w.heap.size vl xs) (hl100 : xs.length ≤ 1000000) (hl0 : xs.length = 0) :
  Calls Try.prog 34 #[CK.val f (.vec b l c), vl] w (RetM (.vec b l c) w) := by
 have HO : Hid (∀ wz, Calls Try.prog 32 #[CK.val f (.vec b l c)] wz fun e w' => e = .returned (.int .i64 l) ∧ Below wz.heap.size wz w') := fun wz => circuit_Out f (.vec b l c) hy wz
 rw [val_vec] at HO ⊢
 obtain ⟨⟨A, cc, rfl, hcc, hcm, hA⟩, hok⟩ := hl
 have hfb0 : (1 : Int) ≤ (f : Int) := by rcases hf.or with rfl | rfl <;> omega
 have hfb1 : (f : Int) ≤ 2 := by rcases hf.or with rfl | rfl <;> omega
 have hp2 := pow32 hy.1.2
 obtain ⟨p, hp⟩ : ∃ p, 2 ^ b = p := ⟨_, rfl⟩
 have hpow : (2 : Int) ^ b = (p : Int) := by rw [← hp]; exact (Int.natCast_pow 2 b).symm
 rw [hp] at hp2
 have HPP := Lib.hid hp
 have hb32 : b ≤ 32 := hy.1.2
 clear hp
 have hl64 : l ≤ 64 := hy.2.1.2
 have hb00 : Below w.heap.size w w := Below.refl _ _
 clear hy
 obtain rfl : xs = [] := List.eq_nil_of_length_eq_zero hl0
 rw [show ([] : List Int).length = 0 from rfl]
 clear hA hok hl100 hl0
 go_enter Try.func34, Try.ntmps34
 go_upto_region 1 with fail
 have hx := Vs.new w [.int .u8 3, .int .u8 f, .int .i64 b, .int .i64 l, .int .i64 0, .int .i64 c] #[.int .u8 3, .int .u8 f, .int .i64 b, .int .i64 l, .int .i64 0, .int .i64 c] 60 rfl
 have hbA : Below w.heap.size w (w.alloc (.cells #[.int .u8 3, .int .u8 f, .int .i64 b, .int .i64 l, .int .i64 0, .int .i64 c] 60)) := by repeat (first | exact bA | with_reducible assumption | apply bB)
 replace hb00 := bl_call hb00 (Nat.le_refl _) hbA
 clear hbA
 generalize w.alloc (.cells #[.int .u8 3, .int .u8 f, .int .i64 b, .int .i64 l, .int .i64 0, .int .i64 c] 60) = w1 at hb00 hx ⊢
 obtain ⟨⟨x0, x1, x2, x3, x4, x5⟩, ⟨x6, x7, x8, x9, x10, x11⟩, x12⟩ := hx.get6
 go_upto_region 6 with (first
  | (go_at_call 32; refine (HO.out _).mono ?_; rintro e w2 ⟨rfl, hb2⟩; replace hb00 := bl_call hb00 (Nat.le_refl _) hb2; replace hx := hx.call hb2; clear x0 x1 x2 x3 x4 x5 x6 x7 x8 x9 x10 x11 x12; clear hb2; obtain ⟨⟨x0, x1, x2, x3, x4, x5⟩, ⟨x6, x7, x8, x9, x10, x11⟩, x12⟩ := hx.get6))
 have hsz : w.heap.size + 1 ≤ w2.heap.size := hx.lt
 clear HO
 clear x0 x1 x2 x3 x4 x5 x6 x7 x8 x9 x10 x11 x12
 go_wp2_with fail
 go_loopw [5, 7, 16] (fun v5 v7 i wr => ∃ (k s : Nat) (ms : List Nat) (A' : Option Addr) (cp : Nat), k ≤ l ∧ Hid (ms.length = k) ∧ i = .int .i64 k ∧ v5 = .slice A' k cp ∧ v7 = .int .i64 s ∧ s ≤ k ∧ Hid (∀ x, x ∈ ms → x < 2 ^ b) ∧
   Vs wr w.heap.size [.int .u8 3, .int .u8 f, .int .i64 b, .int .i64 l, .int .i64 0, .int .i64 c] ∧ wr.ownsRow (w.heap.size + 1) 22 1 (.slice A' k cp) k (cellsU (natsI ms)) ∧ Below w.heap.size w wr ∧ w.heap.size + 1 ≤ wr.heap.size) (fun _ _ i _ => l - (intOf i).toNat)
 case atStart => exact ⟨0, 0, [], none, 0, Nat.zero_le _, rfl, rfl, rfl, rfl, Nat.le_refl _, fun x h => (by simp at h), hx, World.ownsRow_nil _ _ _ _, hb00, hsz⟩
 case round =>
  clear hx hb00 hsz
  obtain ⟨k, s, ms, A', cp, hk, HL, rfl, rfl, rfl, hsk, hP, hx, hown, hbw, hsz⟩ := hrel
  by_cases hlt : k < l
  ·skip
   have hz1 : (0 : Int).tmod ((p : Int)) = 0 := Int.zero_tmod _
   have hz2 : (0 : Int) % ((p : Int)) = 0 := Int.zero_emod _
   skip
   go_upto_region 12 with fail
   obtain ⟨⟨x0, x1, x2, x3, x4, x5⟩, ⟨x6, x7, x8, x9, x10, x11⟩, x12⟩ := hx.get6
   have HOW := Lib.hid (hown.alloc (.cells #[.int .u64 0] 22))
   have hbase : w.heap.size + 1 ≤ (wr.alloc (.cells #[.int .u64 0] 22)).heap.size := by rw [World.size_alloc]; omega
   have HR1 : Hid (0 < 1 → ∃ b o, (some ⟨wr.heap.size, 0, none⟩ : Option Addr) = some ⟨b, o, none⟩ ∧ RowU (wr.alloc (.cells #[.int .u64 0] 22)) b o [(0 : Int)]) := by
    intro _
    refine ⟨_, _, rfl, fun i e hi => ?_⟩
    have hV := Vs.new wr [.int .u64 0] #[.int .u64 0] 22 rfl
    match i, hi with
    | 0, hi =>
     obtain rfl : (0 : Int) = e := by simpa using hi
     exact hV.cell 0 _ rfl
    | i + 1, hi => simp at hi
   have hk1 : k + 1 ≤ 1099511627776 := by omega
   obtain ⟨zs, hzs⟩ : ∃ zs, natsI ms = zs := ⟨_, rfl⟩
   rw [hzs] at HOW
   have HZ := Lib.hid hzs
   clear hzs
   go_wp2_with (at_builtin; (refine wpList_append_M rfl (.tmp 64) (.tmp 66) rfl (w.heap.size + 1) _ k zs rfl HOW.out (some ⟨wr.heap.size, 0, none⟩) 1 1 [(0 : Int)] rfl rfl HR1.out hk1 hbase ?_; intro v2 w7 hown7 hg7 hat7; have hb7 : Below (w.heap.size + 1) (wr.alloc (.cells #[.int .u64 0] 22)) w7 := (Below.refl _ _).grown hg7 hbase (fun q hq => (HOW.out.lt q hq).1); obtain ⟨g2, cap2, hv2⟩ := own_slice hown7; rw [hv2]))
   rw [hv2, ← HZ.out, show natsI ms ++ [(0 : Int)] = natsI (ms ++ [0]) from (natsI_append ms [0]).symm] at hown7
   have hx7 := (hx.alloc (.cells #[.int .u64 0] 22)).belowB hb7 (by omega)
   have hbw7 : Below w.heap.size w w7 := (hbw.alloc (by have := hbw.size; omega) (.cells #[.int .u64 0] 22)).trans (hb7.mono (by omega))
   have hz7 := hb7.size
   have HL7 : Hid ((ms ++ [0]).length = k + 1) := by show (ms ++ [0]).length = k + 1; rw [List.length_append, HL.out]; rfl
   skip
   go_roundw
   case rel => exact ⟨k + 1, s, ms ++ [0], _, cap2, by omega, HL7.out, by go_num, rfl, by go_num, by omega, all_snoc hP.out (by rw [HPP.out]; omega), hx7, hown7, hbw7, by omega⟩
   case measure => simp [intOf]; omega
  ·obtain rfl : k = l := by omega
   go_wp2_with fail
   go_ret
   have hlen : (natsI ms).length = k := by rw [natsI_length]; exact HL.out
   refine ⟨ms, A', cp, HL.out, hP.out, by rw [HL.out]; rfl, ?_, hbw⟩
   have h := SlU.of_own (xs := natsI ms) (by rw [hlen]; exact hown) (natsI_ok fun x hx9 => by have := hP.out x hx9; rw [HPP.out] at this; omega)
   rw [HL.out]
   exact h

set_option maxHeartbeats 8000000 in
theorem law10_Measure_vec_some {f : Nat} (hf : IsF f) (b l c : Nat) (hy : (CK.vec b l c).ok) (vl : Value) (xs : List Int) (w : World) (hl : SlU w w.heap.size vl xs) (hl100 : xs.length ≤ 1000000) (hl0 : ¬ xs.length = 0) :
  Calls Try.prog 34 #[CK.val f (.vec b l c), vl] w (RetM (.vec b l c) w) := by
 have HO : Hid (∀ wz, Calls Try.prog 32 #[CK.val f (.vec b l c)] wz fun e w' => e = .returned (.int .i64 l) ∧ Below wz.heap.size wz w') := fun wz => circuit_Out f (.vec b l c) hy wz
 rw [val_vec] at HO ⊢
 obtain ⟨⟨A, cc, rfl, hcc, hcm, hA⟩, hok⟩ := hl
 have hfb0 : (1 : Int) ≤ (f : Int) := by rcases hf.or with rfl | rfl <;> omega
 have hfb1 : (f : Int) ≤ 2 := by rcases hf.or with rfl | rfl <;> omega
 have hp2 := pow32 hy.1.2
 obtain ⟨p, hp⟩ : ∃ p, 2 ^ b = p := ⟨_, rfl⟩
 have hpow : (2 : Int) ^ b = (p : Int) := by rw [← hp]; exact (Int.natCast_pow 2 b).symm
 rw [hp] at hp2
 have HPP := Lib.hid hp
 have hb32 : b ≤ 32 := hy.1.2
 clear hp
 have hl64 : l ≤ 64 := hy.2.1.2
 have hb00 : Below w.heap.size w w := Below.refl _ _
 clear hy
 go_enter Try.func34, Try.ntmps34
 go_upto_region 1 with fail
 have hx := Vs.new w [.int .u8 3, .int .u8 f, .int .i64 b, .int .i64 l, .int .i64 0, .int .i64 c] #[.int .u8 3, .int .u8 f, .int .i64 b, .int .i64 l, .int .i64 0, .int .i64 c] 60 rfl
 have hbA : Below w.heap.size w (w.alloc (.cells #[.int .u8 3, .int .u8 f, .int .i64 b, .int .i64 l, .int .i64 0, .int .i64 c] 60)) := by repeat (first | exact bA | with_reducible assumption | apply bB)
 replace hb00 := bl_call hb00 (Nat.le_refl _) hbA
 clear hbA
 generalize w.alloc (.cells #[.int .u8 3, .int .u8 f, .int .i64 b, .int .i64 l, .int .i64 0, .int .i64 c] 60) = w1 at hb00 hx ⊢
 obtain ⟨⟨x0, x1, x2, x3, x4, x5⟩, ⟨x6, x7, x8, x9, x10, x11⟩, x12⟩ := hx.get6
 go_upto_region 6 with (first
  | (go_at_call 32; refine (HO.out _).mono ?_; rintro e w2 ⟨rfl, hb2⟩; replace hb00 := bl_call hb00 (Nat.le_refl _) hb2; replace hx := hx.call hb2; clear x0 x1 x2 x3 x4 x5 x6 x7 x8 x9 x10 x11 x12; clear hb2; obtain ⟨⟨x0, x1, x2, x3, x4, x5⟩, ⟨x6, x7, x8, x9, x10, x11⟩, x12⟩ := hx.get6))
 have hsz : w.heap.size + 1 ≤ w2.heap.size := hx.lt
 clear HO
 clear x0 x1 x2 x3 x4 x5 x6 x7 x8 x9 x10 x11 x12
 go_wp2_with fail
 go_loopw [5, 7, 16] (fun v5 v7 i wr => ∃ (k s : Nat) (ms : List Nat) (A' : Option Addr) (cp : Nat), k ≤ l ∧ Hid (ms.length = k) ∧ i = .int .i64 k ∧ v5 = .slice A' k cp ∧ v7 = .int .i64 s ∧ s ≤ k ∧ Hid (∀ x, x ∈ ms → x < 2 ^ b) ∧
   Vs wr w.heap.size [.int .u8 3, .int .u8 f, .int .i64 b, .int .i64 l, .int .i64 0, .int .i64 c] ∧ wr.ownsRow (w.heap.size + 1) 22 1 (.slice A' k cp) k (cellsU (natsI ms)) ∧ Below w.heap.size w wr ∧ w.heap.size + 1 ≤ wr.heap.size) (fun _ _ i _ => l - (intOf i).toNat)
 case atStart => exact ⟨0, 0, [], none, 0, Nat.zero_le _, rfl, rfl, rfl, rfl, Nat.le_refl _, fun x h => (by simp at h), hx, World.ownsRow_nil _ _ _ _, hb00, hsz⟩
 case round =>
  clear hx hb00 hsz
  obtain ⟨k, s, ms, A', cp, hk, HL, rfl, rfl, rfl, hsk, hP, hx, hown, hbw, hsz⟩ := hrel
  by_cases hlt : k < l
  ·have hd0 : decide ((0 : Int) < (xs.length : Int)) = true := decide_eq_true (by omega)
   obtain ⟨b9, o9, rfl, hB, hr⟩ := hA (by omega)
   have hjm : k % xs.length < xs.length := Nat.mod_lt _ (by omega)
   obtain ⟨e9, he⟩ : ∃ e, xs[k % xs.length]? = some e := ⟨_, List.getElem?_eq_getElem hjm⟩
   have d0 := (hr.below hbw hB) _ _ he
   obtain ⟨h0, h1⟩ := hok _ (List.mem_of_getElem? he)
   obtain ⟨X, rfl⟩ : ∃ X : Nat, e9 = (X : Int) := ⟨e9.toNat, by omega⟩
   have hX64 : X ≤ 18446744073709551615 := by omega
   have hjn : 0 ≤ (k : Int) % (xs.length : Int) := Int.emod_nonneg _ (by omega)
   have hjl : (k : Int) % (xs.length : Int) < (xs.length : Int) := Int.emod_lt_of_pos _ (by omega)
   have hjt : ((k : Int) % (xs.length : Int)).toNat = k % xs.length := by rw [← Int.natCast_emod, Int.toNat_natCast]
   have hjd : (k : Int).tmod (xs.length : Int) = (k : Int) % (xs.length : Int) := Int.tmod_eq_emod_of_nonneg (by omega)
   clear he hr hA
   go_upto_region 12 with fail
   clear d0 hjn hjl hjt hjd hjm
   obtain ⟨d, hd1, hdl⟩ : ∃ d : Nat, (X : Int) % (p : Int) = (d : Int) ∧ d < p := ⟨X % p, by rw [Int.natCast_emod], Nat.mod_lt _ (by omega)⟩
   have hd2 : (X : Int).tmod (p : Int) = (d : Int) := by rw [Int.tmod_eq_emod_of_nonneg (by omega)]; exact hd1
   have hd64 : IntKind.u64.wrap (d : Int) = (d : Int) := IntWalk.u64_in _ (by omega)
   have hdi : IntKind.i64.wrap (d : Int) = (d : Int) := IntWalk.i64_in _ (by omega)
   obtain ⟨⟨x0, x1, x2, x3, x4, x5⟩, ⟨x6, x7, x8, x9, x10, x11⟩, x12⟩ := hx.get6
   have HOW := Lib.hid (hown.alloc (.cells #[.int .u64 d] 22))
   have hbase : w.heap.size + 1 ≤ (wr.alloc (.cells #[.int .u64 d] 22)).heap.size := by rw [World.size_alloc]; omega
   have HR1 : Hid (0 < 1 → ∃ b o, (some ⟨wr.heap.size, 0, none⟩ : Option Addr) = some ⟨b, o, none⟩ ∧ RowU (wr.alloc (.cells #[.int .u64 d] 22)) b o [(d : Int)]) := by
    intro _
    refine ⟨_, _, rfl, fun i e hi => ?_⟩
    have hV := Vs.new wr [.int .u64 d] #[.int .u64 d] 22 rfl
    match i, hi with
    | 0, hi =>
     obtain rfl : (d : Int) = e := by simpa using hi
     exact hV.cell 0 _ rfl
    | i + 1, hi => simp at hi
   have hk1 : k + 1 ≤ 1099511627776 := by omega
   obtain ⟨zs, hzs⟩ : ∃ zs, natsI ms = zs := ⟨_, rfl⟩
   rw [hzs] at HOW
   have HZ := Lib.hid hzs
   clear hzs
   go_wp2_with (at_builtin; (refine wpList_append_M rfl (.tmp 64) (.tmp 66) rfl (w.heap.size + 1) _ k zs rfl HOW.out (some ⟨wr.heap.size, 0, none⟩) 1 1 [(d : Int)] rfl rfl HR1.out hk1 hbase ?_; intro v2 w7 hown7 hg7 hat7; have hb7 : Below (w.heap.size + 1) (wr.alloc (.cells #[.int .u64 d] 22)) w7 := (Below.refl _ _).grown hg7 hbase (fun q hq => (HOW.out.lt q hq).1); obtain ⟨g2, cap2, hv2⟩ := own_slice hown7; rw [hv2]))
   rw [hv2, ← HZ.out, show natsI ms ++ [(d : Int)] = natsI (ms ++ [d]) from (natsI_append ms [d]).symm] at hown7
   have hx7 := (hx.alloc (.cells #[.int .u64 d] 22)).belowB hb7 (by omega)
   have hbw7 : Below w.heap.size w w7 := (hbw.alloc (by have := hbw.size; omega) (.cells #[.int .u64 d] 22)).trans (hb7.mono (by omega))
   have hz7 := hb7.size
   have HL7 : Hid ((ms ++ [d]).length = k + 1) := by show (ms ++ [d]).length = k + 1; rw [List.length_append, HL.out]; rfl
   go_roundw
   case rel => exact ⟨k + 1, s, ms ++ [d], _, cap2, by omega, HL7.out, by go_num, rfl, rfl, by omega, all_snoc hP.out (by rw [HPP.out]; exact hdl), hx7, hown7, hbw7, by omega⟩
   case measure => simp [intOf]; omega
  ·obtain rfl : k = l := by omega
   go_wp2_with fail
   go_ret
   have hlen : (natsI ms).length = k := by rw [natsI_length]; exact HL.out
   refine ⟨ms, A', cp, HL.out, hP.out, by rw [HL.out]; rfl, ?_, hbw⟩
   have h := SlU.of_own (xs := natsI ms) (by rw [hlen]; exact hown) (natsI_ok fun x hx9 => by have := hP.out x hx9; rw [HPP.out] at this; omega)
   rw [HL.out]
   exact h

theorem law10_Measure_vec {f : Nat} (hf : IsF f) (b l c : Nat) (hy : (CK.vec b l c).ok) (vl : Value) (xs : List Int) (w : World) (hl : SlU w w.heap.size vl xs) (hl100 : xs.length ≤ 1000000) :
  Calls Try.prog 34 #[CK.val f (.vec b l c), vl] w (RetM (.vec b l c) w) := by
 by_cases hl0 : xs.length = 0
 ·exact law10_Measure_vec_zero hf b l c hy vl xs w hl hl100 hl0
 ·exact law10_Measure_vec_some hf b l c hy vl xs w hl hl100 hl0

set_option maxHeartbeats 8000000 in
theorem law10_Measure_hist_zero {f : Nat} (hf : IsF f) (l c : Nat) (hy : (CK.hist l c).ok) (vl : Value) (xs : List Int) (w : World) (hl : SlU w w.heap.size vl xs) (hl100 : xs.length ≤ 1000000) (hl0 : xs.length = 0) :
  Calls Try.prog 34 #[CK.val f (.hist l c), vl] w (RetM (.hist l c) w) := by
 have HO : Hid (∀ wz, Calls Try.prog 32 #[CK.val f (.hist l c)] wz fun e w' => e = .returned (.int .i64 l) ∧ Below wz.heap.size wz w') := fun wz => circuit_Out f (.hist l c) hy wz
 rw [val_hist] at HO ⊢
 obtain ⟨⟨A, cc, rfl, hcc, hcm, hA⟩, hok⟩ := hl
 have hfb0 : (1 : Int) ≤ (f : Int) := by rcases hf.or with rfl | rfl <;> omega
 have hfb1 : (f : Int) ≤ 2 := by rcases hf.or with rfl | rfl <;> omega
 have hl64 : l ≤ 64 := hy.1.2
 have hl1 : 1 ≤ l := hy.1.1
 have hwl : IntKind.u64.wrap (l : Int) = (l : Int) := IntWalk.u64_in _ (by omega)
 have hb00 : Below w.heap.size w w := Below.refl _ _
 clear hy
 obtain rfl : xs = [] := List.eq_nil_of_length_eq_zero hl0
 rw [show ([] : List Int).length = 0 from rfl]
 clear hA hok hl100 hl0
 go_enter Try.func34, Try.ntmps34
 go_upto_region 1 with fail
 have hx := Vs.new w [.int .u8 4, .int .u8 f, .int .i64 0, .int .i64 l, .int .i64 0, .int .i64 c] #[.int .u8 4, .int .u8 f, .int .i64 0, .int .i64 l, .int .i64 0, .int .i64 c] 60 rfl
 have hbA : Below w.heap.size w (w.alloc (.cells #[.int .u8 4, .int .u8 f, .int .i64 0, .int .i64 l, .int .i64 0, .int .i64 c] 60)) := by repeat (first | exact bA | with_reducible assumption | apply bB)
 replace hb00 := bl_call hb00 (Nat.le_refl _) hbA
 clear hbA
 generalize w.alloc (.cells #[.int .u8 4, .int .u8 f, .int .i64 0, .int .i64 l, .int .i64 0, .int .i64 c] 60) = w1 at hb00 hx ⊢
 obtain ⟨⟨x0, x1, x2, x3, x4, x5⟩, ⟨x6, x7, x8, x9, x10, x11⟩, x12⟩ := hx.get6
 go_upto_region 6 with (first
  | (go_at_call 32; refine (HO.out _).mono ?_; rintro e w2 ⟨rfl, hb2⟩; replace hb00 := bl_call hb00 (Nat.le_refl _) hb2; replace hx := hx.call hb2; clear x0 x1 x2 x3 x4 x5 x6 x7 x8 x9 x10 x11 x12; clear hb2; obtain ⟨⟨x0, x1, x2, x3, x4, x5⟩, ⟨x6, x7, x8, x9, x10, x11⟩, x12⟩ := hx.get6))
 have hsz : w.heap.size + 1 ≤ w2.heap.size := hx.lt
 clear HO
 clear x0 x1 x2 x3 x4 x5 x6 x7 x8 x9 x10 x11 x12
 go_wp2_with fail
 go_loopw [5, 7, 16] (fun v5 v7 i wr => ∃ (k s : Nat) (ms : List Nat) (A' : Option Addr) (cp : Nat), k ≤ 1 ∧ Hid (ms.length = k) ∧ i = .int .i64 k ∧ v5 = .slice A' k cp ∧ v7 = .int .i64 s ∧ s ≤ k ∧ Hid (∀ x, x ∈ ms → x < l) ∧
   Vs wr w.heap.size [.int .u8 4, .int .u8 f, .int .i64 0, .int .i64 l, .int .i64 0, .int .i64 c] ∧ wr.ownsRow (w.heap.size + 1) 22 1 (.slice A' k cp) k (cellsU (natsI ms)) ∧ Below w.heap.size w wr ∧ w.heap.size + 1 ≤ wr.heap.size) (fun _ _ i _ => 1 - (intOf i).toNat)
 case atStart => exact ⟨0, 0, [], none, 0, Nat.zero_le _, rfl, rfl, rfl, rfl, Nat.le_refl _, fun x h => (by simp at h), hx, World.ownsRow_nil _ _ _ _, hb00, hsz⟩
 case round =>
  clear hx hb00 hsz
  obtain ⟨k, s, ms, A', cp, hk, HL, rfl, rfl, rfl, hsk, hP, hx, hown, hbw, hsz⟩ := hrel
  by_cases hlt : k < 1
  ·skip
   have hz1 : (0 : Int).tmod ((l : Int)) = 0 := Int.zero_tmod _
   have hz2 : (0 : Int) % ((l : Int)) = 0 := Int.zero_emod _
   skip
   go_upto_region 12 with fail
   obtain ⟨⟨x0, x1, x2, x3, x4, x5⟩, ⟨x6, x7, x8, x9, x10, x11⟩, x12⟩ := hx.get6
   have HOW := Lib.hid (hown.alloc (.cells #[.int .u64 0] 22))
   have hbase : w.heap.size + 1 ≤ (wr.alloc (.cells #[.int .u64 0] 22)).heap.size := by rw [World.size_alloc]; omega
   have HR1 : Hid (0 < 1 → ∃ b o, (some ⟨wr.heap.size, 0, none⟩ : Option Addr) = some ⟨b, o, none⟩ ∧ RowU (wr.alloc (.cells #[.int .u64 0] 22)) b o [(0 : Int)]) := by
    intro _
    refine ⟨_, _, rfl, fun i e hi => ?_⟩
    have hV := Vs.new wr [.int .u64 0] #[.int .u64 0] 22 rfl
    match i, hi with
    | 0, hi =>
     obtain rfl : (0 : Int) = e := by simpa using hi
     exact hV.cell 0 _ rfl
    | i + 1, hi => simp at hi
   have hk1 : k + 1 ≤ 1099511627776 := by omega
   obtain ⟨zs, hzs⟩ : ∃ zs, natsI ms = zs := ⟨_, rfl⟩
   rw [hzs] at HOW
   have HZ := Lib.hid hzs
   clear hzs
   go_wp2_with (at_builtin; (refine wpList_append_M rfl (.tmp 64) (.tmp 66) rfl (w.heap.size + 1) _ k zs rfl HOW.out (some ⟨wr.heap.size, 0, none⟩) 1 1 [(0 : Int)] rfl rfl HR1.out hk1 hbase ?_; intro v2 w7 hown7 hg7 hat7; have hb7 : Below (w.heap.size + 1) (wr.alloc (.cells #[.int .u64 0] 22)) w7 := (Below.refl _ _).grown hg7 hbase (fun q hq => (HOW.out.lt q hq).1); obtain ⟨g2, cap2, hv2⟩ := own_slice hown7; rw [hv2]))
   rw [hv2, ← HZ.out, show natsI ms ++ [(0 : Int)] = natsI (ms ++ [0]) from (natsI_append ms [0]).symm] at hown7
   have hx7 := (hx.alloc (.cells #[.int .u64 0] 22)).belowB hb7 (by omega)
   have hbw7 : Below w.heap.size w w7 := (hbw.alloc (by have := hbw.size; omega) (.cells #[.int .u64 0] 22)).trans (hb7.mono (by omega))
   have hz7 := hb7.size
   have HL7 : Hid ((ms ++ [0]).length = k + 1) := by show (ms ++ [0]).length = k + 1; rw [List.length_append, HL.out]; rfl
   skip
   go_roundw
   case rel => exact ⟨k + 1, s, ms ++ [0], _, cap2, by omega, HL7.out, by go_num, rfl, by go_num, by omega, all_snoc hP.out (by omega), hx7, hown7, hbw7, by omega⟩
   case measure => simp [intOf]; omega
  ·obtain rfl : k = 1 := by omega
   go_wp2_with fail
   go_ret
   have hlen : (natsI ms).length = 1 := by rw [natsI_length]; exact HL.out
   refine ⟨ms, A', cp, HL.out, (by
     have h := hP.out
     match ms, HL.out with
     | [q], _ => exact h q (List.mem_cons_self ..)), by rw [HL.out]; rfl, ?_, hbw⟩
   have h := SlU.of_own (xs := natsI ms) (by rw [hlen]; exact hown) (natsI_ok fun x hx9 => by have := hP.out x hx9; omega)
   rw [HL.out]
   exact h

set_option maxHeartbeats 8000000 in
theorem law10_Measure_hist_some {f : Nat} (hf : IsF f) (l c : Nat) (hy : (CK.hist l c).ok) (vl : Value) (xs : List Int) (w : World) (hl : SlU w w.heap.size vl xs) (hl100 : xs.length ≤ 1000000) (hl0 : ¬ xs.length = 0) :
  Calls Try.prog 34 #[CK.val f (.hist l c), vl] w (RetM (.hist l c) w) := by
 have HO : Hid (∀ wz, Calls Try.prog 32 #[CK.val f (.hist l c)] wz fun e w' => e = .returned (.int .i64 l) ∧ Below wz.heap.size wz w') := fun wz => circuit_Out f (.hist l c) hy wz
 rw [val_hist] at HO ⊢
 obtain ⟨⟨A, cc, rfl, hcc, hcm, hA⟩, hok⟩ := hl
 have hfb0 : (1 : Int) ≤ (f : Int) := by rcases hf.or with rfl | rfl <;> omega
 have hfb1 : (f : Int) ≤ 2 := by rcases hf.or with rfl | rfl <;> omega
 have hl64 : l ≤ 64 := hy.1.2
 have hl1 : 1 ≤ l := hy.1.1
 have hwl : IntKind.u64.wrap (l : Int) = (l : Int) := IntWalk.u64_in _ (by omega)
 have hb00 : Below w.heap.size w w := Below.refl _ _
 clear hy
 go_enter Try.func34, Try.ntmps34
 go_upto_region 1 with fail
 have hx := Vs.new w [.int .u8 4, .int .u8 f, .int .i64 0, .int .i64 l, .int .i64 0, .int .i64 c] #[.int .u8 4, .int .u8 f, .int .i64 0, .int .i64 l, .int .i64 0, .int .i64 c] 60 rfl
 have hbA : Below w.heap.size w (w.alloc (.cells #[.int .u8 4, .int .u8 f, .int .i64 0, .int .i64 l, .int .i64 0, .int .i64 c] 60)) := by repeat (first | exact bA | with_reducible assumption | apply bB)
 replace hb00 := bl_call hb00 (Nat.le_refl _) hbA
 clear hbA
 generalize w.alloc (.cells #[.int .u8 4, .int .u8 f, .int .i64 0, .int .i64 l, .int .i64 0, .int .i64 c] 60) = w1 at hb00 hx ⊢
 obtain ⟨⟨x0, x1, x2, x3, x4, x5⟩, ⟨x6, x7, x8, x9, x10, x11⟩, x12⟩ := hx.get6
 go_upto_region 6 with (first
  | (go_at_call 32; refine (HO.out _).mono ?_; rintro e w2 ⟨rfl, hb2⟩; replace hb00 := bl_call hb00 (Nat.le_refl _) hb2; replace hx := hx.call hb2; clear x0 x1 x2 x3 x4 x5 x6 x7 x8 x9 x10 x11 x12; clear hb2; obtain ⟨⟨x0, x1, x2, x3, x4, x5⟩, ⟨x6, x7, x8, x9, x10, x11⟩, x12⟩ := hx.get6))
 have hsz : w.heap.size + 1 ≤ w2.heap.size := hx.lt
 clear HO
 clear x0 x1 x2 x3 x4 x5 x6 x7 x8 x9 x10 x11 x12
 go_wp2_with fail
 go_loopw [5, 7, 16] (fun v5 v7 i wr => ∃ (k s : Nat) (ms : List Nat) (A' : Option Addr) (cp : Nat), k ≤ 1 ∧ Hid (ms.length = k) ∧ i = .int .i64 k ∧ v5 = .slice A' k cp ∧ v7 = .int .i64 s ∧ s ≤ k ∧ Hid (∀ x, x ∈ ms → x < l) ∧
   Vs wr w.heap.size [.int .u8 4, .int .u8 f, .int .i64 0, .int .i64 l, .int .i64 0, .int .i64 c] ∧ wr.ownsRow (w.heap.size + 1) 22 1 (.slice A' k cp) k (cellsU (natsI ms)) ∧ Below w.heap.size w wr ∧ w.heap.size + 1 ≤ wr.heap.size) (fun _ _ i _ => 1 - (intOf i).toNat)
 case atStart => exact ⟨0, 0, [], none, 0, Nat.zero_le _, rfl, rfl, rfl, rfl, Nat.le_refl _, fun x h => (by simp at h), hx, World.ownsRow_nil _ _ _ _, hb00, hsz⟩
 case round =>
  clear hx hb00 hsz
  obtain ⟨k, s, ms, A', cp, hk, HL, rfl, rfl, rfl, hsk, hP, hx, hown, hbw, hsz⟩ := hrel
  by_cases hlt : k < 1
  ·have hd0 : decide ((0 : Int) < (xs.length : Int)) = true := decide_eq_true (by omega)
   obtain ⟨b9, o9, rfl, hB, hr⟩ := hA (by omega)
   have hjm : k % xs.length < xs.length := Nat.mod_lt _ (by omega)
   obtain ⟨e9, he⟩ : ∃ e, xs[k % xs.length]? = some e := ⟨_, List.getElem?_eq_getElem hjm⟩
   have d0 := (hr.below hbw hB) _ _ he
   obtain ⟨h0, h1⟩ := hok _ (List.mem_of_getElem? he)
   obtain ⟨X, rfl⟩ : ∃ X : Nat, e9 = (X : Int) := ⟨e9.toNat, by omega⟩
   have hX64 : X ≤ 18446744073709551615 := by omega
   have hjn : 0 ≤ (k : Int) % (xs.length : Int) := Int.emod_nonneg _ (by omega)
   have hjl : (k : Int) % (xs.length : Int) < (xs.length : Int) := Int.emod_lt_of_pos _ (by omega)
   have hjt : ((k : Int) % (xs.length : Int)).toNat = k % xs.length := by rw [← Int.natCast_emod, Int.toNat_natCast]
   have hjd : (k : Int).tmod (xs.length : Int) = (k : Int) % (xs.length : Int) := Int.tmod_eq_emod_of_nonneg (by omega)
   clear he hr hA
   go_upto_region 12 with fail
   clear d0 hjn hjl hjt hjd hjm
   obtain ⟨d, hd1, hdl⟩ : ∃ d : Nat, (X : Int) % (l : Int) = (d : Int) ∧ d < l := ⟨X % l, by rw [Int.natCast_emod], Nat.mod_lt _ (by omega)⟩
   have hd2 : (X : Int).tmod (l : Int) = (d : Int) := by rw [Int.tmod_eq_emod_of_nonneg (by omega)]; exact hd1
   have hd64 : IntKind.u64.wrap (d : Int) = (d : Int) := IntWalk.u64_in _ (by omega)
   have hdi : IntKind.i64.wrap (d : Int) = (d : Int) := IntWalk.i64_in _ (by omega)
   obtain ⟨⟨x0, x1, x2, x3, x4, x5⟩, ⟨x6, x7, x8, x9, x10, x11⟩, x12⟩ := hx.get6
   have HOW := Lib.hid (hown.alloc (.cells #[.int .u64 d] 22))
   have hbase : w.heap.size + 1 ≤ (wr.alloc (.cells #[.int .u64 d] 22)).heap.size := by rw [World.size_alloc]; omega
   have HR1 : Hid (0 < 1 → ∃ b o, (some ⟨wr.heap.size, 0, none⟩ : Option Addr) = some ⟨b, o, none⟩ ∧ RowU (wr.alloc (.cells #[.int .u64 d] 22)) b o [(d : Int)]) := by
    intro _
    refine ⟨_, _, rfl, fun i e hi => ?_⟩
    have hV := Vs.new wr [.int .u64 d] #[.int .u64 d] 22 rfl
    match i, hi with
    | 0, hi =>
     obtain rfl : (d : Int) = e := by simpa using hi
     exact hV.cell 0 _ rfl
    | i + 1, hi => simp at hi
   have hk1 : k + 1 ≤ 1099511627776 := by omega
   obtain ⟨zs, hzs⟩ : ∃ zs, natsI ms = zs := ⟨_, rfl⟩
   rw [hzs] at HOW
   have HZ := Lib.hid hzs
   clear hzs
   go_wp2_with (at_builtin; (refine wpList_append_M rfl (.tmp 64) (.tmp 66) rfl (w.heap.size + 1) _ k zs rfl HOW.out (some ⟨wr.heap.size, 0, none⟩) 1 1 [(d : Int)] rfl rfl HR1.out hk1 hbase ?_; intro v2 w7 hown7 hg7 hat7; have hb7 : Below (w.heap.size + 1) (wr.alloc (.cells #[.int .u64 d] 22)) w7 := (Below.refl _ _).grown hg7 hbase (fun q hq => (HOW.out.lt q hq).1); obtain ⟨g2, cap2, hv2⟩ := own_slice hown7; rw [hv2]))
   rw [hv2, ← HZ.out, show natsI ms ++ [(d : Int)] = natsI (ms ++ [d]) from (natsI_append ms [d]).symm] at hown7
   have hx7 := (hx.alloc (.cells #[.int .u64 d] 22)).belowB hb7 (by omega)
   have hbw7 : Below w.heap.size w w7 := (hbw.alloc (by have := hbw.size; omega) (.cells #[.int .u64 d] 22)).trans (hb7.mono (by omega))
   have hz7 := hb7.size
   have HL7 : Hid ((ms ++ [d]).length = k + 1) := by show (ms ++ [d]).length = k + 1; rw [List.length_append, HL.out]; rfl
   go_roundw
   case rel => exact ⟨k + 1, s, ms ++ [d], _, cap2, by omega, HL7.out, by go_num, rfl, rfl, by omega, all_snoc hP.out hdl, hx7, hown7, hbw7, by omega⟩
   case measure => simp [intOf]; omega
  ·obtain rfl : k = 1 := by omega
   go_wp2_with fail
   go_ret
   have hlen : (natsI ms).length = 1 := by rw [natsI_length]; exact HL.out
   refine ⟨ms, A', cp, HL.out, (by
     have h := hP.out
     match ms, HL.out with
     | [q], _ => exact h q (List.mem_cons_self ..)), by rw [HL.out]; rfl, ?_, hbw⟩
   have h := SlU.of_own (xs := natsI ms) (by rw [hlen]; exact hown) (natsI_ok fun x hx9 => by have := hP.out x hx9; omega)
   rw [HL.out]
   exact h

theorem law10_Measure_hist {f : Nat} (hf : IsF f) (l c : Nat) (hy : (CK.hist l c).ok) (vl : Value) (xs : List Int) (w : World) (hl : SlU w w.heap.size vl xs) (hl100 : xs.length ≤ 1000000) :
  Calls Try.prog 34 #[CK.val f (.hist l c), vl] w (RetM (.hist l c) w) := by
 by_cases hl0 : xs.length = 0
 ·exact law10_Measure_hist_zero hf l c hy vl xs w hl hl100 hl0
 ·exact law10_Measure_hist_some hf l c hy vl xs w hl hl100 hl0

set_option maxHeartbeats 8000000 in
theorem law10_Measure_multi_zero {f : Nat} (hf : IsF f) (l m c : Nat) (hy : (CK.multi l m c).ok) (vl : Value) (xs : List Int) (w : World) (hl : SlU w w.heap.size vl xs) (hl100 : xs.length ≤ 1000000) (hl0 : xs.length = 0) :
  Calls Try.prog 34 #[CK.val f (.multi l m c), vl] w (RetM (.multi l m c) w) := by
 have HO : Hid (∀ wz, Calls Try.prog 32 #[CK.val f (.multi l m c)] wz fun e w' => e = .returned (.int .i64 l) ∧ Below wz.heap.size wz w') := fun wz => circuit_Out f (.multi l m c) hy wz
 rw [val_multi] at HO ⊢
 obtain ⟨⟨A, cc, rfl, hcc, hcm, hA⟩, hok⟩ := hl
 have hfb0 : (1 : Int) ≤ (f : Int) := by rcases hf.or with rfl | rfl <;> omega
 have hfb1 : (f : Int) ≤ 2 := by rcases hf.or with rfl | rfl <;> omega
 have hl64 : l ≤ 64 := hy.1.2
 have hml : m ≤ l := hy.2.1.2
 have hb00 : Below w.heap.size w w := Below.refl _ _
 clear hy
 obtain rfl : xs = [] := List.eq_nil_of_length_eq_zero hl0
 rw [show ([] : List Int).length = 0 from rfl]
 clear hA hok hl100 hl0
 go_enter Try.func34, Try.ntmps34
 go_upto_region 1 with fail
 have hx := Vs.new w [.int .u8 5, .int .u8 f, .int .i64 0, .int .i64 l, .int .i64 m, .int .i64 c] #[.int .u8 5, .int .u8 f, .int .i64 0, .int .i64 l, .int .i64 m, .int .i64 c] 60 rfl
 have hbA : Below w.heap.size w (w.alloc (.cells #[.int .u8 5, .int .u8 f, .int .i64 0, .int .i64 l, .int .i64 m, .int .i64 c] 60)) := by repeat (first | exact bA | with_reducible assumption | apply bB)
 replace hb00 := bl_call hb00 (Nat.le_refl _) hbA
 clear hbA
 generalize w.alloc (.cells #[.int .u8 5, .int .u8 f, .int .i64 0, .int .i64 l, .int .i64 m, .int .i64 c] 60) = w1 at hb00 hx ⊢
 obtain ⟨⟨x0, x1, x2, x3, x4, x5⟩, ⟨x6, x7, x8, x9, x10, x11⟩, x12⟩ := hx.get6
 go_upto_region 6 with (first
  | (go_at_call 32; refine (HO.out _).mono ?_; rintro e w2 ⟨rfl, hb2⟩; replace hb00 := bl_call hb00 (Nat.le_refl _) hb2; replace hx := hx.call hb2; clear x0 x1 x2 x3 x4 x5 x6 x7 x8 x9 x10 x11 x12; clear hb2; obtain ⟨⟨x0, x1, x2, x3, x4, x5⟩, ⟨x6, x7, x8, x9, x10, x11⟩, x12⟩ := hx.get6))
 have hsz : w.heap.size + 1 ≤ w2.heap.size := hx.lt
 clear HO
 clear x0 x1 x2 x3 x4 x5 x6 x7 x8 x9 x10 x11 x12
 go_wp2_with fail
 go_loopw [5, 7, 16] (fun v5 v7 i wr => ∃ (k s : Nat) (ms : List Nat) (A' : Option Addr) (cp : Nat), k ≤ l ∧ Hid (ms.length = k) ∧ i = .int .i64 k ∧ v5 = .slice A' k cp ∧ v7 = .int .i64 s ∧ s ≤ k ∧ s ≤ m ∧ Hid (ms.sum = s) ∧ Hid (∀ x, x ∈ ms → x ≤ 1) ∧
   Vs wr w.heap.size [.int .u8 5, .int .u8 f, .int .i64 0, .int .i64 l, .int .i64 m, .int .i64 c] ∧ wr.ownsRow (w.heap.size + 1) 22 1 (.slice A' k cp) k (cellsU (natsI ms)) ∧ Below w.heap.size w wr ∧ w.heap.size + 1 ≤ wr.heap.size) (fun _ _ i _ => l - (intOf i).toNat)
 case atStart => exact ⟨0, 0, [], none, 0, Nat.zero_le _, rfl, rfl, rfl, rfl, Nat.le_refl _, Nat.zero_le _, rfl, fun x h => (by simp at h), hx, World.ownsRow_nil _ _ _ _, hb00, hsz⟩
 case round =>
  clear hx hb00 hsz
  obtain ⟨k, s, ms, A', cp, hk, HL, rfl, rfl, rfl, hsk, hsm, hS, hP, hx, hown, hbw, hsz⟩ := hrel
  by_cases hlt : k < l
  ·skip
   have hz1 : (0 : Int).tmod (2) = 0 := Int.zero_tmod _
   have hz2 : (0 : Int) % (2) = 0 := Int.zero_emod _
   have hdg : decide ((m : Int) < (s : Int)) = false := decide_eq_false (by omega)
   go_upto_region 12 with fail
   obtain ⟨⟨x0, x1, x2, x3, x4, x5⟩, ⟨x6, x7, x8, x9, x10, x11⟩, x12⟩ := hx.get6
   have HOW := Lib.hid (hown.alloc (.cells #[.int .u64 0] 22))
   have hbase : w.heap.size + 1 ≤ (wr.alloc (.cells #[.int .u64 0] 22)).heap.size := by rw [World.size_alloc]; omega
   have HR1 : Hid (0 < 1 → ∃ b o, (some ⟨wr.heap.size, 0, none⟩ : Option Addr) = some ⟨b, o, none⟩ ∧ RowU (wr.alloc (.cells #[.int .u64 0] 22)) b o [(0 : Int)]) := by
    intro _
    refine ⟨_, _, rfl, fun i e hi => ?_⟩
    have hV := Vs.new wr [.int .u64 0] #[.int .u64 0] 22 rfl
    match i, hi with
    | 0, hi =>
     obtain rfl : (0 : Int) = e := by simpa using hi
     exact hV.cell 0 _ rfl
    | i + 1, hi => simp at hi
   have hk1 : k + 1 ≤ 1099511627776 := by omega
   obtain ⟨zs, hzs⟩ : ∃ zs, natsI ms = zs := ⟨_, rfl⟩
   rw [hzs] at HOW
   have HZ := Lib.hid hzs
   clear hzs
   go_wp2_with (at_builtin; (refine wpList_append_M rfl (.tmp 64) (.tmp 66) rfl (w.heap.size + 1) _ k zs rfl HOW.out (some ⟨wr.heap.size, 0, none⟩) 1 1 [(0 : Int)] rfl rfl HR1.out hk1 hbase ?_; intro v2 w7 hown7 hg7 hat7; have hb7 : Below (w.heap.size + 1) (wr.alloc (.cells #[.int .u64 0] 22)) w7 := (Below.refl _ _).grown hg7 hbase (fun q hq => (HOW.out.lt q hq).1); obtain ⟨g2, cap2, hv2⟩ := own_slice hown7; rw [hv2]))
   rw [hv2, ← HZ.out, show natsI ms ++ [(0 : Int)] = natsI (ms ++ [0]) from (natsI_append ms [0]).symm] at hown7
   have hx7 := (hx.alloc (.cells #[.int .u64 0] 22)).belowB hb7 (by omega)
   have hbw7 : Below w.heap.size w w7 := (hbw.alloc (by have := hbw.size; omega) (.cells #[.int .u64 0] 22)).trans (hb7.mono (by omega))
   have hz7 := hb7.size
   have HL7 : Hid ((ms ++ [0]).length = k + 1) := by show (ms ++ [0]).length = k + 1; rw [List.length_append, HL.out]; rfl
   have HS7 : Hid ((ms ++ [0]).sum = s) := by show (ms ++ [0]).sum = s; rw [List.sum_append, hS.out]; rfl
   go_roundw
   case rel => exact ⟨k + 1, s, ms ++ [0], _, cap2, by omega, HL7.out, by go_num, rfl, by go_num, by omega, hsm, HS7.out, all_snoc hP.out (by omega), hx7, hown7, hbw7, by omega⟩
   case measure => simp [intOf]; omega
  ·obtain rfl : k = l := by omega
   go_wp2_with fail
   go_ret
   have hlen : (natsI ms).length = k := by rw [natsI_length]; exact HL.out
   refine ⟨ms, A', cp, HL.out, ⟨hP.out, by rw [hS.out]; exact hsm⟩, by rw [HL.out]; rfl, ?_, hbw⟩
   have h := SlU.of_own (xs := natsI ms) (by rw [hlen]; exact hown) (natsI_ok fun x hx9 => by have := hP.out x hx9; omega)
   rw [HL.out]
   exact h

set_option maxHeartbeats 8000000 in
theorem law10_Measure_multi_some {f : Nat} (hf : IsF f) (l m c : Nat) (hy : (CK.multi l m c).ok) (vl : Value) (xs : List Int) (w : World) (hl : SlU w w.heap.size vl xs) (hl100 : xs.length ≤ 1000000) (hl0 : ¬ xs.length = 0) :
  Calls Try.prog 34 #[CK.val f (.multi l m c), vl] w (RetM (.multi l m c) w) := by
 have HO : Hid (∀ wz, Calls Try.prog 32 #[CK.val f (.multi l m c)] wz fun e w' => e = .returned (.int .i64 l) ∧ Below wz.heap.size wz w') := fun wz => circuit_Out f (.multi l m c) hy wz
 rw [val_multi] at HO ⊢
 obtain ⟨⟨A, cc, rfl, hcc, hcm, hA⟩, hok⟩ := hl
 have hfb0 : (1 : Int) ≤ (f : Int) := by rcases hf.or with rfl | rfl <;> omega
 have hfb1 : (f : Int) ≤ 2 := by rcases hf.or with rfl | rfl <;> omega
 have hl64 : l ≤ 64 := hy.1.2
 have hml : m ≤ l := hy.2.1.2
 have hb00 : Below w.heap.size w w := Below.refl _ _
 clear hy
 go_enter Try.func34, Try.ntmps34
 go_upto_region 1 with fail
 have hx := Vs.new w [.int .u8 5, .int .u8 f, .int .i64 0, .int .i64 l, .int .i64 m, .int .i64 c] #[.int .u8 5, .int .u8 f, .int .i64 0, .int .i64 l, .int .i64 m, .int .i64 c] 60 rfl
 have hbA : Below w.heap.size w (w.alloc (.cells #[.int .u8 5, .int .u8 f, .int .i64 0, .int .i64 l, .int .i64 m, .int .i64 c] 60)) := by repeat (first | exact bA | with_reducible assumption | apply bB)
 replace hb00 := bl_call hb00 (Nat.le_refl _) hbA
 clear hbA
 generalize w.alloc (.cells #[.int .u8 5, .int .u8 f, .int .i64 0, .int .i64 l, .int .i64 m, .int .i64 c] 60) = w1 at hb00 hx ⊢
 obtain ⟨⟨x0, x1, x2, x3, x4, x5⟩, ⟨x6, x7, x8, x9, x10, x11⟩, x12⟩ := hx.get6
 go_upto_region 6 with (first
  | (go_at_call 32; refine (HO.out _).mono ?_; rintro e w2 ⟨rfl, hb2⟩; replace hb00 := bl_call hb00 (Nat.le_refl _) hb2; replace hx := hx.call hb2; clear x0 x1 x2 x3 x4 x5 x6 x7 x8 x9 x10 x11 x12; clear hb2; obtain ⟨⟨x0, x1, x2, x3, x4, x5⟩, ⟨x6, x7, x8, x9, x10, x11⟩, x12⟩ := hx.get6))
 have hsz : w.heap.size + 1 ≤ w2.heap.size := hx.lt
 clear HO
 clear x0 x1 x2 x3 x4 x5 x6 x7 x8 x9 x10 x11 x12
 go_wp2_with fail
 go_loopw [5, 7, 16] (fun v5 v7 i wr => ∃ (k s : Nat) (ms : List Nat) (A' : Option Addr) (cp : Nat), k ≤ l ∧ Hid (ms.length = k) ∧ i = .int .i64 k ∧ v5 = .slice A' k cp ∧ v7 = .int .i64 s ∧ s ≤ k ∧ s ≤ m ∧ Hid (ms.sum = s) ∧ Hid (∀ x, x ∈ ms → x ≤ 1) ∧
   Vs wr w.heap.size [.int .u8 5, .int .u8 f, .int .i64 0, .int .i64 l, .int .i64 m, .int .i64 c] ∧ wr.ownsRow (w.heap.size + 1) 22 1 (.slice A' k cp) k (cellsU (natsI ms)) ∧ Below w.heap.size w wr ∧ w.heap.size + 1 ≤ wr.heap.size) (fun _ _ i _ => l - (intOf i).toNat)
 case atStart => exact ⟨0, 0, [], none, 0, Nat.zero_le _, rfl, rfl, rfl, rfl, Nat.le_refl _, Nat.zero_le _, rfl, fun x h => (by simp at h), hx, World.ownsRow_nil _ _ _ _, hb00, hsz⟩
 case round =>
  clear hx hb00 hsz
  obtain ⟨k, s, ms, A', cp, hk, HL, rfl, rfl, rfl, hsk, hsm, hS, hP, hx, hown, hbw, hsz⟩ := hrel
  by_cases hlt : k < l
  ·have hd0 : decide ((0 : Int) < (xs.length : Int)) = true := decide_eq_true (by omega)
   obtain ⟨b9, o9, rfl, hB, hr⟩ := hA (by omega)
   have hjm : k % xs.length < xs.length := Nat.mod_lt _ (by omega)
   obtain ⟨e9, he⟩ : ∃ e, xs[k % xs.length]? = some e := ⟨_, List.getElem?_eq_getElem hjm⟩
   have d0 := (hr.below hbw hB) _ _ he
   obtain ⟨h0, h1⟩ := hok _ (List.mem_of_getElem? he)
   obtain ⟨X, rfl⟩ : ∃ X : Nat, e9 = (X : Int) := ⟨e9.toNat, by omega⟩
   have hX64 : X ≤ 18446744073709551615 := by omega
   have hjn : 0 ≤ (k : Int) % (xs.length : Int) := Int.emod_nonneg _ (by omega)
   have hjl : (k : Int) % (xs.length : Int) < (xs.length : Int) := Int.emod_lt_of_pos _ (by omega)
   have hjt : ((k : Int) % (xs.length : Int)).toNat = k % xs.length := by rw [← Int.natCast_emod, Int.toNat_natCast]
   have hjd : (k : Int).tmod (xs.length : Int) = (k : Int) % (xs.length : Int) := Int.tmod_eq_emod_of_nonneg (by omega)
   clear he hr hA
   go_upto_region 12 with fail
   clear d0 hjn hjl hjt hjd hjm
   obtain ⟨d, hd1, hdl⟩ : ∃ d : Nat, (X : Int) % 2 = (d : Int) ∧ d < 2 := ⟨X % 2, by rw [Int.natCast_emod]; rfl, Nat.mod_lt _ (by omega)⟩
   have hd2 : (X : Int).tmod 2 = (d : Int) := by rw [Int.tmod_eq_emod_of_nonneg (by omega)]; exact hd1
   have hd64 : IntKind.u64.wrap (d : Int) = (d : Int) := IntWalk.u64_in _ (by omega)
   have hdi : IntKind.i64.wrap (d : Int) = (d : Int) := IntWalk.i64_in _ (by omega)
   obtain ⟨⟨x0, x1, x2, x3, x4, x5⟩, ⟨x6, x7, x8, x9, x10, x11⟩, x12⟩ := hx.get6
   by_cases hgt : m < s + d
   ·have hdg : decide ((m : Int) < (s : Int) + (d : Int)) = true := decide_eq_true (by omega)
    have HOW := Lib.hid (hown.alloc (.cells #[.int .u64 0] 22))
    have hbase : w.heap.size + 1 ≤ (wr.alloc (.cells #[.int .u64 0] 22)).heap.size := by rw [World.size_alloc]; omega
    have HR1 : Hid (0 < 1 → ∃ b o, (some ⟨wr.heap.size, 0, none⟩ : Option Addr) = some ⟨b, o, none⟩ ∧ RowU (wr.alloc (.cells #[.int .u64 0] 22)) b o [(0 : Int)]) := by
     intro _
     refine ⟨_, _, rfl, fun i e hi => ?_⟩
     have hV := Vs.new wr [.int .u64 0] #[.int .u64 0] 22 rfl
     match i, hi with
     | 0, hi =>
      obtain rfl : (0 : Int) = e := by simpa using hi
      exact hV.cell 0 _ rfl
     | i + 1, hi => simp at hi
    have hk1 : k + 1 ≤ 1099511627776 := by omega
    obtain ⟨zs, hzs⟩ : ∃ zs, natsI ms = zs := ⟨_, rfl⟩
    rw [hzs] at HOW
    have HZ := Lib.hid hzs
    clear hzs
    go_wp2_with (at_builtin; (refine wpList_append_M rfl (.tmp 64) (.tmp 66) rfl (w.heap.size + 1) _ k zs rfl HOW.out (some ⟨wr.heap.size, 0, none⟩) 1 1 [(0 : Int)] rfl rfl HR1.out hk1 hbase ?_; intro v2 w7 hown7 hg7 hat7; have hb7 : Below (w.heap.size + 1) (wr.alloc (.cells #[.int .u64 0] 22)) w7 := (Below.refl _ _).grown hg7 hbase (fun q hq => (HOW.out.lt q hq).1); obtain ⟨g2, cap2, hv2⟩ := own_slice hown7; rw [hv2]))
    rw [hv2, ← HZ.out, show natsI ms ++ [(0 : Int)] = natsI (ms ++ [0]) from (natsI_append ms [0]).symm] at hown7
    have hx7 := (hx.alloc (.cells #[.int .u64 0] 22)).belowB hb7 (by omega)
    have hbw7 : Below w.heap.size w w7 := (hbw.alloc (by have := hbw.size; omega) (.cells #[.int .u64 0] 22)).trans (hb7.mono (by omega))
    have hz7 := hb7.size
    have HL7 : Hid ((ms ++ [0]).length = k + 1) := by show (ms ++ [0]).length = k + 1; rw [List.length_append, HL.out]; rfl
    have HS7 : Hid ((ms ++ [0]).sum = s) := by show (ms ++ [0]).sum = s; rw [List.sum_append, hS.out]; rfl
    go_roundw
    case rel => exact ⟨k + 1, s, ms ++ [0], _, cap2, by omega, HL7.out, by go_num, rfl, by go_num, by omega, hsm, HS7.out, all_snoc hP.out (by omega), hx7, hown7, hbw7, by omega⟩
    case measure => simp [intOf]; omega
   ·have hdg : decide ((m : Int) < (s : Int) + (d : Int)) = false := decide_eq_false (by omega)
    have HOW := Lib.hid (hown.alloc (.cells #[.int .u64 d] 22))
    have hbase : w.heap.size + 1 ≤ (wr.alloc (.cells #[.int .u64 d] 22)).heap.size := by rw [World.size_alloc]; omega
    have HR1 : Hid (0 < 1 → ∃ b o, (some ⟨wr.heap.size, 0, none⟩ : Option Addr) = some ⟨b, o, none⟩ ∧ RowU (wr.alloc (.cells #[.int .u64 d] 22)) b o [(d : Int)]) := by
     intro _
     refine ⟨_, _, rfl, fun i e hi => ?_⟩
     have hV := Vs.new wr [.int .u64 d] #[.int .u64 d] 22 rfl
     match i, hi with
     | 0, hi =>
      obtain rfl : (d : Int) = e := by simpa using hi
      exact hV.cell 0 _ rfl
     | i + 1, hi => simp at hi
    have hk1 : k + 1 ≤ 1099511627776 := by omega
    obtain ⟨zs, hzs⟩ : ∃ zs, natsI ms = zs := ⟨_, rfl⟩
    rw [hzs] at HOW
    have HZ := Lib.hid hzs
    clear hzs
    go_wp2_with (at_builtin; (refine wpList_append_M rfl (.tmp 64) (.tmp 66) rfl (w.heap.size + 1) _ k zs rfl HOW.out (some ⟨wr.heap.size, 0, none⟩) 1 1 [(d : Int)] rfl rfl HR1.out hk1 hbase ?_; intro v2 w7 hown7 hg7 hat7; have hb7 : Below (w.heap.size + 1) (wr.alloc (.cells #[.int .u64 d] 22)) w7 := (Below.refl _ _).grown hg7 hbase (fun q hq => (HOW.out.lt q hq).1); obtain ⟨g2, cap2, hv2⟩ := own_slice hown7; rw [hv2]))
    rw [hv2, ← HZ.out, show natsI ms ++ [(d : Int)] = natsI (ms ++ [d]) from (natsI_append ms [d]).symm] at hown7
    have hx7 := (hx.alloc (.cells #[.int .u64 d] 22)).belowB hb7 (by omega)
    have hbw7 : Below w.heap.size w w7 := (hbw.alloc (by have := hbw.size; omega) (.cells #[.int .u64 d] 22)).trans (hb7.mono (by omega))
    have hz7 := hb7.size
    have HL7 : Hid ((ms ++ [d]).length = k + 1) := by show (ms ++ [d]).length = k + 1; rw [List.length_append, HL.out]; rfl
    have HS7 : Hid ((ms ++ [d]).sum = s + d) := by show (ms ++ [d]).sum = s + d; rw [List.sum_append, hS.out]; simp
    go_roundw
    case rel => exact ⟨k + 1, s + d, ms ++ [d], _, cap2, by omega, HL7.out, by go_num, rfl, by go_num, by omega, by omega, HS7.out, all_snoc hP.out (by omega), hx7, hown7, hbw7, by omega⟩
    case measure => simp [intOf]; omega
  ·obtain rfl : k = l := by omega
   go_wp2_with fail
   go_ret
   have hlen : (natsI ms).length = k := by rw [natsI_length]; exact HL.out
   refine ⟨ms, A', cp, HL.out, ⟨hP.out, by rw [hS.out]; exact hsm⟩, by rw [HL.out]; rfl, ?_, hbw⟩
   have h := SlU.of_own (xs := natsI ms) (by rw [hlen]; exact hown) (natsI_ok fun x hx9 => by have := hP.out x hx9; omega)
   rw [HL.out]
   exact h

theorem law10_Measure_multi {f : Nat} (hf : IsF f) (l m c : Nat) (hy : (CK.multi l m c).ok) (vl : Value) (xs : List Int) (w : World) (hl : SlU w w.heap.size vl xs) (hl100 : xs.length ≤ 1000000) :
  Calls Try.prog 34 #[CK.val f (.multi l m c), vl] w (RetM (.multi l m c) w) := by
 by_cases hl0 : xs.length = 0
 ·exact law10_Measure_multi_zero hf l m c hy vl xs w hl hl100 hl0
 ·exact law10_Measure_multi_some hf l m c hy vl xs w hl hl100 hl0

end Go.Proofs.Ytbakkmfjamcbfaa
