/-
  WALKS: the reference's Encode.
-/
/-
  LAWS on what is measured: an encoded vector is right, and what is summed of it is what was measured.
-/
import Derived.Test.YtiphahbeedeebaaMba
import Derived.Test.YtiphahbeedeebaaMao
import Derived.Test.YtiphahbeedeebaaMat
import Derived.Test.YtiphahbeedeebaaMau
import Derived.Test.YtiphahbeedeebaaMaq
namespace Go.Proofs.Ytiphahbeedeebaa
open Go.RowKit Fm
set_option linter.unusedVariables false
set_option maxRecDepth 100000

/-- small numbers come back, or an error -/
def RetEncR (ok : Prop) (l : List Nat) (w : World) (e : Ending) (w' : World) : Prop :=
  (ok ∧ ∃ v, e = .returned (.tuple #[v, .int .i64 0]) ∧ SlU w' w'.heap.size v (natsI l) ∧ Below w.heap.size w w') ∨ (¬ ok ∧ RetNil 6 w e w')

theorem bitsL_le (x : Nat) : ∀ q e, e ∈ bitsL x q → e ≤ 1
  | 0, e, h => by cases h
  | q + 1, e, h => by
    rw [bitsL] at h
    rcases List.mem_append.1 h with h | h
    · exact bitsL_le x q e h
    · rw [List.mem_singleton.1 h]
      omega
theorem encNums_le (b : Nat) (ms : List Nat) : ∀ e, e ∈ encNums b ms → e ≤ 1 := by
  intro e he
  unfold encNums at he
  obtain ⟨x, _, h⟩ := List.mem_flatMap.1 he
  exact bitsL_le x b e h
theorem encOne_le (l n : Nat) : ∀ e, e ∈ encOne l n → e ≤ 1 := by
  intro e he
  unfold encOne at he
  rcases List.mem_or_eq_of_mem_set he with h | h
  · rw [(List.mem_replicate.1 h).2]
    omega
  · omega
theorem own_nats {w : World} {base n : Nat} {v : Value} {l : List Nat} (h : w.ownsRow base 39 1 v n (cellsU (natsI l))) (hn : l.length = n) (hle : ∀ e, e ∈ l → e ≤ 18446744073709551615) : SlU w w.heap.size v (natsI l) := by
  refine SlU.of_own (base := base) (xs := natsI l) ?_ (natsI_ok hle)
  rw [natsI_length, hn]
  exact h


section
variable {f : Nat}

set_option maxHeartbeats 8000000 in
theorem ref9_Encode_nums2 (b n m c : Nat) (N : Int) (hb1 : 1 ≤ b) (hb2 : b ≤ 32) (hn2 : n ≤ 64) (vm : Value) (ms : List Nat) (w : World) (hm : SlU w w.heap.size vm (natsI ms)) (hl : ms.length = n)
    (HC : Hid (∀ wz, Calls Try.prog 49 #[.agg #[.int .i64 2, .int .i64 f, .int .i64 b, .int .i64 N, .int .i64 m, .int .i64 c]] wz (RetC 0 wz)))
    (HO : Hid (∀ wz, Calls Try.prog 62 #[.agg #[.int .i64 2, .int .i64 f, .int .i64 b, .int .i64 N, .int .i64 m, .int .i64 c]] wz (RetI n wz))) :
    Calls Try.prog 40 #[.agg #[.int .i64 2, .int .i64 f, .int .i64 b, .int .i64 N, .int .i64 m, .int .i64 c], vm] w (RetEncR (okNums b ms) (encNums b ms) w) := by
  obtain ⟨⟨A, cc, rfl, hcc, hcm, hA⟩, hok⟩ := hm
  rw [natsI_length, hl] at hcc hA
  rw [natsI_length, hl]
  have HL := Lib.hid hl
  have hb00 : Below w.heap.size w w := Below.refl _ _
  clear hl
  go_enter Try.func40, Try.ntmps40
  go_upto_region 1 with fail
  have hx := Vs.new w [.int .i64 2, .int .i64 f, .int .i64 b, .int .i64 N, .int .i64 m, .int .i64 c] #[.int .i64 2, .int .i64 f, .int .i64 b, .int .i64 N, .int .i64 m, .int .i64 c] 72 rfl
  have hbA : Below w.heap.size w (w.alloc (.cells #[.int .i64 2, .int .i64 f, .int .i64 b, .int .i64 N, .int .i64 m, .int .i64 c] 72)) := by repeat (first | exact Below.refl _ _ | with_reducible assumption | (refine bl_alloc ?_ (Nat.le_refl _) _))
  replace hb00 := bl_call hb00 (Nat.le_refl _) hbA
  clear hbA
  generalize w.alloc (.cells #[.int .i64 2, .int .i64 f, .int .i64 b, .int .i64 N, .int .i64 m, .int .i64 c] 72) = w1 at hb00 hx ⊢
  obtain ⟨⟨x0, x1, x2, x3, x4, x5⟩, ⟨x6, x7, x8, x9, x10, x11⟩, x12⟩ := hx.get6
  go_upto_region 11 with (first
    | (go_at_call 49; refine (HC.out _).mono ?_; rintro e w2 ⟨rfl, hb2⟩; replace hb00 := bl_call hb00 (Nat.le_refl _) hb2; replace hx := hx.call hb2; clear x0 x1 x2 x3 x4 x5 x6 x7 x8 x9 x10 x11 x12; clear hb2; obtain ⟨⟨x0, x1, x2, x3, x4, x5⟩, ⟨x6, x7, x8, x9, x10, x11⟩, x12⟩ := hx.get6)
    | (go_at_call 62; refine (HO.out _).mono ?_; rintro e w3 ⟨rfl, hb3⟩; replace hb00 := bl_call hb00 (Nat.le_refl _) hb3; replace hx := hx.call hb3; clear x0 x1 x2 x3 x4 x5 x6 x7 x8 x9 x10 x11 x12; clear hb3; obtain ⟨⟨x0, x1, x2, x3, x4, x5⟩, ⟨x6, x7, x8, x9, x10, x11⟩, x12⟩ := hx.get6))
  have hsz : w.heap.size + 1 ≤ w3.heap.size := hx.lt
  clear HC HO
  clear x0 x1 x2 x3 x4 x5 x6 x7 x8 x9 x10 x11 x12
  go_wp2_with fail
  go_loopw [8, 10] (fun v8 i wr => ∃ (k p : Nat) (A' : Option Addr) (cp : Nat), k ≤ n ∧ i = .int .i64 k ∧ v8 = .slice A' p cp ∧ Hid (p = k * b) ∧ p ≤ 32 * k ∧ Hid (∀ x, x ∈ ms.take k → x < 2 ^ b) ∧
      Vs wr w.heap.size [.int .i64 2, .int .i64 f, .int .i64 b, .int .i64 N, .int .i64 m, .int .i64 c] ∧ wr.ownsRow (w.heap.size + 1) 39 1 (.slice A' p cp) p (cellsU (natsI (encNums b (ms.take k)))) ∧ Below w.heap.size w wr ∧ w.heap.size + 1 ≤ wr.heap.size) (fun _ i _ => n - (intOf i).toNat)
  case atStart => exact ⟨0, 0, none, 0, Nat.zero_le _, rfl, rfl, (by rw [Nat.zero_mul] : 0 = 0 * b), by omega, fun x h => (by simp at h), hx, World.ownsRow_nil _ _ _ _, hb00, hsz⟩
  case round =>
    clear hx hb00 hsz
    obtain ⟨k, p, A', cp, hk, rfl, rfl, hp, hp32, hall, hx, hown, hbw, hsz⟩ := hrel
    by_cases hlt : k < n
    rotate_left
    · obtain rfl : k = n := by omega
      rw [List.take_of_length_le (by rw [HL.out]; exact Nat.le_refl _)] at hall hown
      have HLE : Hid ((encNums b ms).length = p) := by show (encNums b ms).length = p; rw [encNums_length, HL.out, hp.out]
      obtain ⟨⟨x0, x1, x2, x3, x4, x5⟩, ⟨x6, x7, x8, x9, x10, x11⟩, x12⟩ := hx.get6
      go_wp2_with fail
      go_ret2
      exact .inl ⟨hall.out, _, rfl, own_nats hown HLE.out (fun e he => by have := encNums_le b ms e he; omega), hbw⟩
    obtain ⟨bb, o, rfl, hB, hr⟩ := hA (by omega)
    obtain ⟨x, hx9⟩ : ∃ n, ms[k]? = some n := ⟨_, List.getElem?_eq_getElem (by rw [HL.out]; exact hlt)⟩
    have d0 := (hr.below hbw hB) _ _ (natsI_at hx9)
    have hbnd := hok _ (List.mem_of_getElem? (natsI_at hx9))
    have hx64 : x ≤ 18446744073709551615 := by have := hbnd.2; omega
    have HN := Lib.hid hx9
    clear hx9 hr hA hbnd
    obtain ⟨⟨x0, x1, x2, x3, x4, x5⟩, ⟨x6, x7, x8, x9, x10, x11⟩, x12⟩ := hx.get6
    go_upto_region 33 with fail
    clear d0
    clear x0 x1 x2 x3 x4 x5 x6 x7 x8 x9 x10 x11 x12
    have HLK : Hid (encNums b (ms.take k) ++ bitsL x 0 = encNums b (ms.take k)) := List.append_nil _
    go_wp2_with fail
    go_loopw [8, 11, 14] (fun v8 v11 i wr => ∃ (j : Nat) (A' : Option Addr) (cp q : Nat), j ≤ b ∧ i = .int .i64 j ∧ v8 = .slice A' (p + j) cp ∧ v11 = .int .u64 q ∧ Hid (q = x / 2 ^ j) ∧ q ≤ 18446744073709551615 ∧
      Vs wr w.heap.size [.int .i64 2, .int .i64 f, .int .i64 b, .int .i64 N, .int .i64 m, .int .i64 c] ∧ wr.ownsRow (w.heap.size + 1) 39 1 (.slice A' (p + j) cp) (p + j) (cellsU (natsI (encNums b (ms.take k) ++ bitsL x j))) ∧ Below w.heap.size w wr ∧ w.heap.size + 1 ≤ wr.heap.size) (fun _ _ i _ => b - (intOf i).toNat)
    case atStart => exact ⟨0, A', cp, x, Nat.zero_le _, rfl, rfl, rfl, (by rw [Nat.pow_zero, Nat.div_one] : x = x / 2 ^ 0), hx64, hx, by rw [HLK.out]; exact hown, hbw, hsz⟩
    case round =>
      clear hx hown hbw hsz
      obtain ⟨j, A2, cp2, q, hj, rfl, rfl, rfl, hq, hq64, hx, hown, hbw, hsz⟩ := hrel
      by_cases hjb : j < b
      · obtain ⟨d, hd1, hdl⟩ : ∃ d : Nat, (q : Int) % 2 = (d : Int) ∧ d = q % 2 := ⟨q % 2, by rw [Int.natCast_emod]; rfl, rfl⟩
        have hd2 : (q : Int).tmod 2 = (d : Int) := by rw [Int.tmod_eq_emod_of_nonneg (by omega)]; exact hd1
        obtain ⟨q2, hq1, hq2⟩ : ∃ q2 : Nat, (q : Int) / 2 = (q2 : Int) ∧ q2 = q / 2 := ⟨q / 2, by rw [Int.natCast_ediv]; rfl, rfl⟩
        have hq3 : (q : Int).tdiv 2 = (q2 : Int) := by rw [Int.tdiv_eq_ediv_of_nonneg (by omega)]; exact hq1
        have hd64 : IntKind.u64.wrap (d : Int) = (d : Int) := IntWalk.u64_in _ (by omega)
        have hq64b : IntKind.u64.wrap (q2 : Int) = (q2 : Int) := IntWalk.u64_in _ (by omega)
        have hq264 : q2 ≤ 18446744073709551615 := by omega
        have HQ2 : Hid (q2 = x / 2 ^ (j + 1)) := by show q2 = _; rw [hq2, hq.out, Nat.pow_succ, Nat.div_div_eq_div_mul]
        have HBL : Hid (encNums b (ms.take k) ++ bitsL x (j + 1) = encNums b (ms.take k) ++ bitsL x j ++ [d]) := by
          show encNums b (ms.take k) ++ (bitsL x j ++ [x / 2 ^ j % 2]) = _
          rw [← hq.out, ← hdl, List.append_assoc]
        clear hdl hq2
        obtain ⟨⟨x0, x1, x2, x3, x4, x5⟩, ⟨x6, x7, x8, x9, x10, x11⟩, x12⟩ := hx.get6
        have HOW := Lib.hid (hown.alloc (.cells #[.int .u64 d] 39))
        have hbase : w.heap.size + 1 ≤ (wr.alloc (.cells #[.int .u64 d] 39)).heap.size := by rw [World.size_alloc]; omega
        have HR1 : Hid (0 < 1 → ∃ b o, (some ⟨wr.heap.size, 0, none⟩ : Option Addr) = some ⟨b, o, none⟩ ∧ RowU (wr.alloc (.cells #[.int .u64 d] 39)) b o [(d : Int)]) := by
          intro _
          refine ⟨_, _, rfl, fun i e hi => ?_⟩
          have hV := Vs.new wr [.int .u64 d] #[.int .u64 d] 39 rfl
          match i, hi with
          | 0, hi =>
            obtain rfl : (d : Int) = e := by simpa using hi
            exact hV.cell 0 _ rfl
          | i + 1, hi => simp at hi
        have hk1 : p + j + 1 ≤ 1099511627776 := by omega
        obtain ⟨zs, hzs⟩ : ∃ zs, natsI (encNums b (ms.take k) ++ bitsL x j) = zs := ⟨_, rfl⟩
        rw [hzs] at HOW
        have HZ := Lib.hid hzs
        clear hzs
        go_upto_region 36 with (at_builtin; (refine wpList_append_U rfl (.tmp 83) (.tmp 86) rfl (w.heap.size + 1) _ (p + j) zs rfl HOW.out (some ⟨wr.heap.size, 0, none⟩) 1 1 [(d : Int)] rfl rfl HR1.out hk1 hbase ?_; intro v2 w7 hown7 hg7 hat7; have hb7 : Below (w.heap.size + 1) (wr.alloc (.cells #[.int .u64 d] 39)) w7 := (Below.refl _ _).grown hg7 hbase (fun q hq => (HOW.out.lt q hq).1); obtain ⟨g2, cap2, hv2⟩ := own_slice hown7; rw [hv2]))
        rw [hv2, ← HZ.out, show natsI (encNums b (ms.take k) ++ bitsL x j) ++ [(d : Int)] = natsI (encNums b (ms.take k) ++ bitsL x j ++ [d]) from (natsI_append (encNums b (ms.take k) ++ bitsL x j) [d]).symm] at hown7
        have hx7 := (hx.alloc (.cells #[.int .u64 d] 39)).belowB hb7 (by omega)
        have hbw7 : Below w.heap.size w w7 := (hbw.alloc (by have := hbw.size; omega) (.cells #[.int .u64 d] 39)).trans (hb7.mono (by omega))
        have hz7 := hb7.size
        rw [← HBL.out] at hown7
        go_wp2_with fail
        go_roundw
        case rel => exact ⟨j + 1, _, cap2, q2, by omega, by go_num, rfl, rfl, HQ2.out, hq264, hx7, hown7, hbw7, by omega⟩
        case measure => simp [intOf]; omega
      · obtain rfl : j = b := by omega
        obtain ⟨⟨x0, x1, x2, x3, x4, x5⟩, ⟨x6, x7, x8, x9, x10, x11⟩, x12⟩ := hx.get6
        by_cases hxb : x < 2 ^ j
        · have hq0 : q = 0 := by rw [hq.out]; exact Nat.div_eq_of_lt hxb
          subst hq0
          have HA2 := Lib.hid (all_take HN.out hall.out hxb)
          have HT2 : Hid (encNums j (ms.take k) ++ bitsL x j = encNums j (ms.take (k + 1))) := (encNums_take HN.out).symm
          have HP : Hid (p + j = (k + 1) * j) := by show p + j = (k + 1) * j; rw [hp.out, Nat.succ_mul]
          rw [HT2.out] at hown
          clear hxb
          go_wp2_with fail
          go_roundw
          case rel => exact ⟨k + 1, p + j, _, cp2, by omega, by go_num, rfl, HP.out, by omega, HA2.out, hx, hown, hbw, hsz⟩
          case measure => simp [intOf]; omega
        · have hq0 : 0 < q := by rw [hq.out]; exact Nat.div_pos (by omega) (Nat.two_pow_pos j)
          have hbad : ¬ okNums j ms := fun h => hxb (h x (List.mem_of_getElem? HN.out))
          have HBAD := Lib.hid hbad
          clear hbad hxb
          go_wp2_with fail
          go_ret2
          exact .inr ⟨HBAD.out, rfl, hbw⟩
set_option maxHeartbeats 8000000 in
theorem ref9_Encode_nums3 (b n m c : Nat) (N : Int) (hb1 : 1 ≤ b) (hb2 : b ≤ 32) (hn2 : n ≤ 64) (vm : Value) (ms : List Nat) (w : World) (hm : SlU w w.heap.size vm (natsI ms)) (hl : ms.length = n)
    (HC : Hid (∀ wz, Calls Try.prog 49 #[.agg #[.int .i64 3, .int .i64 f, .int .i64 b, .int .i64 N, .int .i64 m, .int .i64 c]] wz (RetC 0 wz)))
    (HO : Hid (∀ wz, Calls Try.prog 62 #[.agg #[.int .i64 3, .int .i64 f, .int .i64 b, .int .i64 N, .int .i64 m, .int .i64 c]] wz (RetI n wz))) :
    Calls Try.prog 40 #[.agg #[.int .i64 3, .int .i64 f, .int .i64 b, .int .i64 N, .int .i64 m, .int .i64 c], vm] w (RetEncR (okNums b ms) (encNums b ms) w) := by
  obtain ⟨⟨A, cc, rfl, hcc, hcm, hA⟩, hok⟩ := hm
  rw [natsI_length, hl] at hcc hA
  rw [natsI_length, hl]
  have HL := Lib.hid hl
  have hb00 : Below w.heap.size w w := Below.refl _ _
  clear hl
  go_enter Try.func40, Try.ntmps40
  go_upto_region 1 with fail
  have hx := Vs.new w [.int .i64 3, .int .i64 f, .int .i64 b, .int .i64 N, .int .i64 m, .int .i64 c] #[.int .i64 3, .int .i64 f, .int .i64 b, .int .i64 N, .int .i64 m, .int .i64 c] 72 rfl
  have hbA : Below w.heap.size w (w.alloc (.cells #[.int .i64 3, .int .i64 f, .int .i64 b, .int .i64 N, .int .i64 m, .int .i64 c] 72)) := by repeat (first | exact Below.refl _ _ | with_reducible assumption | (refine bl_alloc ?_ (Nat.le_refl _) _))
  replace hb00 := bl_call hb00 (Nat.le_refl _) hbA
  clear hbA
  generalize w.alloc (.cells #[.int .i64 3, .int .i64 f, .int .i64 b, .int .i64 N, .int .i64 m, .int .i64 c] 72) = w1 at hb00 hx ⊢
  obtain ⟨⟨x0, x1, x2, x3, x4, x5⟩, ⟨x6, x7, x8, x9, x10, x11⟩, x12⟩ := hx.get6
  go_upto_region 11 with (first
    | (go_at_call 49; refine (HC.out _).mono ?_; rintro e w2 ⟨rfl, hb2⟩; replace hb00 := bl_call hb00 (Nat.le_refl _) hb2; replace hx := hx.call hb2; clear x0 x1 x2 x3 x4 x5 x6 x7 x8 x9 x10 x11 x12; clear hb2; obtain ⟨⟨x0, x1, x2, x3, x4, x5⟩, ⟨x6, x7, x8, x9, x10, x11⟩, x12⟩ := hx.get6)
    | (go_at_call 62; refine (HO.out _).mono ?_; rintro e w3 ⟨rfl, hb3⟩; replace hb00 := bl_call hb00 (Nat.le_refl _) hb3; replace hx := hx.call hb3; clear x0 x1 x2 x3 x4 x5 x6 x7 x8 x9 x10 x11 x12; clear hb3; obtain ⟨⟨x0, x1, x2, x3, x4, x5⟩, ⟨x6, x7, x8, x9, x10, x11⟩, x12⟩ := hx.get6))
  have hsz : w.heap.size + 1 ≤ w3.heap.size := hx.lt
  clear HC HO
  clear x0 x1 x2 x3 x4 x5 x6 x7 x8 x9 x10 x11 x12
  go_wp2_with fail
  go_loopw [8, 10] (fun v8 i wr => ∃ (k p : Nat) (A' : Option Addr) (cp : Nat), k ≤ n ∧ i = .int .i64 k ∧ v8 = .slice A' p cp ∧ Hid (p = k * b) ∧ p ≤ 32 * k ∧ Hid (∀ x, x ∈ ms.take k → x < 2 ^ b) ∧
      Vs wr w.heap.size [.int .i64 3, .int .i64 f, .int .i64 b, .int .i64 N, .int .i64 m, .int .i64 c] ∧ wr.ownsRow (w.heap.size + 1) 39 1 (.slice A' p cp) p (cellsU (natsI (encNums b (ms.take k)))) ∧ Below w.heap.size w wr ∧ w.heap.size + 1 ≤ wr.heap.size) (fun _ i _ => n - (intOf i).toNat)
  case atStart => exact ⟨0, 0, none, 0, Nat.zero_le _, rfl, rfl, (by rw [Nat.zero_mul] : 0 = 0 * b), by omega, fun x h => (by simp at h), hx, World.ownsRow_nil _ _ _ _, hb00, hsz⟩
  case round =>
    clear hx hb00 hsz
    obtain ⟨k, p, A', cp, hk, rfl, rfl, hp, hp32, hall, hx, hown, hbw, hsz⟩ := hrel
    by_cases hlt : k < n
    rotate_left
    · obtain rfl : k = n := by omega
      rw [List.take_of_length_le (by rw [HL.out]; exact Nat.le_refl _)] at hall hown
      have HLE : Hid ((encNums b ms).length = p) := by show (encNums b ms).length = p; rw [encNums_length, HL.out, hp.out]
      obtain ⟨⟨x0, x1, x2, x3, x4, x5⟩, ⟨x6, x7, x8, x9, x10, x11⟩, x12⟩ := hx.get6
      go_wp2_with fail
      go_ret2
      exact .inl ⟨hall.out, _, rfl, own_nats hown HLE.out (fun e he => by have := encNums_le b ms e he; omega), hbw⟩
    obtain ⟨bb, o, rfl, hB, hr⟩ := hA (by omega)
    obtain ⟨x, hx9⟩ : ∃ n, ms[k]? = some n := ⟨_, List.getElem?_eq_getElem (by rw [HL.out]; exact hlt)⟩
    have d0 := (hr.below hbw hB) _ _ (natsI_at hx9)
    have hbnd := hok _ (List.mem_of_getElem? (natsI_at hx9))
    have hx64 : x ≤ 18446744073709551615 := by have := hbnd.2; omega
    have HN := Lib.hid hx9
    clear hx9 hr hA hbnd
    obtain ⟨⟨x0, x1, x2, x3, x4, x5⟩, ⟨x6, x7, x8, x9, x10, x11⟩, x12⟩ := hx.get6
    go_upto_region 33 with fail
    clear d0
    clear x0 x1 x2 x3 x4 x5 x6 x7 x8 x9 x10 x11 x12
    have HLK : Hid (encNums b (ms.take k) ++ bitsL x 0 = encNums b (ms.take k)) := List.append_nil _
    go_wp2_with fail
    go_loopw [8, 11, 14] (fun v8 v11 i wr => ∃ (j : Nat) (A' : Option Addr) (cp q : Nat), j ≤ b ∧ i = .int .i64 j ∧ v8 = .slice A' (p + j) cp ∧ v11 = .int .u64 q ∧ Hid (q = x / 2 ^ j) ∧ q ≤ 18446744073709551615 ∧
      Vs wr w.heap.size [.int .i64 3, .int .i64 f, .int .i64 b, .int .i64 N, .int .i64 m, .int .i64 c] ∧ wr.ownsRow (w.heap.size + 1) 39 1 (.slice A' (p + j) cp) (p + j) (cellsU (natsI (encNums b (ms.take k) ++ bitsL x j))) ∧ Below w.heap.size w wr ∧ w.heap.size + 1 ≤ wr.heap.size) (fun _ _ i _ => b - (intOf i).toNat)
    case atStart => exact ⟨0, A', cp, x, Nat.zero_le _, rfl, rfl, rfl, (by rw [Nat.pow_zero, Nat.div_one] : x = x / 2 ^ 0), hx64, hx, by rw [HLK.out]; exact hown, hbw, hsz⟩
    case round =>
      clear hx hown hbw hsz
      obtain ⟨j, A2, cp2, q, hj, rfl, rfl, rfl, hq, hq64, hx, hown, hbw, hsz⟩ := hrel
      by_cases hjb : j < b
      · obtain ⟨d, hd1, hdl⟩ : ∃ d : Nat, (q : Int) % 2 = (d : Int) ∧ d = q % 2 := ⟨q % 2, by rw [Int.natCast_emod]; rfl, rfl⟩
        have hd2 : (q : Int).tmod 2 = (d : Int) := by rw [Int.tmod_eq_emod_of_nonneg (by omega)]; exact hd1
        obtain ⟨q2, hq1, hq2⟩ : ∃ q2 : Nat, (q : Int) / 2 = (q2 : Int) ∧ q2 = q / 2 := ⟨q / 2, by rw [Int.natCast_ediv]; rfl, rfl⟩
        have hq3 : (q : Int).tdiv 2 = (q2 : Int) := by rw [Int.tdiv_eq_ediv_of_nonneg (by omega)]; exact hq1
        have hd64 : IntKind.u64.wrap (d : Int) = (d : Int) := IntWalk.u64_in _ (by omega)
        have hq64b : IntKind.u64.wrap (q2 : Int) = (q2 : Int) := IntWalk.u64_in _ (by omega)
        have hq264 : q2 ≤ 18446744073709551615 := by omega
        have HQ2 : Hid (q2 = x / 2 ^ (j + 1)) := by show q2 = _; rw [hq2, hq.out, Nat.pow_succ, Nat.div_div_eq_div_mul]
        have HBL : Hid (encNums b (ms.take k) ++ bitsL x (j + 1) = encNums b (ms.take k) ++ bitsL x j ++ [d]) := by
          show encNums b (ms.take k) ++ (bitsL x j ++ [x / 2 ^ j % 2]) = _
          rw [← hq.out, ← hdl, List.append_assoc]
        clear hdl hq2
        obtain ⟨⟨x0, x1, x2, x3, x4, x5⟩, ⟨x6, x7, x8, x9, x10, x11⟩, x12⟩ := hx.get6
        have HOW := Lib.hid (hown.alloc (.cells #[.int .u64 d] 39))
        have hbase : w.heap.size + 1 ≤ (wr.alloc (.cells #[.int .u64 d] 39)).heap.size := by rw [World.size_alloc]; omega
        have HR1 : Hid (0 < 1 → ∃ b o, (some ⟨wr.heap.size, 0, none⟩ : Option Addr) = some ⟨b, o, none⟩ ∧ RowU (wr.alloc (.cells #[.int .u64 d] 39)) b o [(d : Int)]) := by
          intro _
          refine ⟨_, _, rfl, fun i e hi => ?_⟩
          have hV := Vs.new wr [.int .u64 d] #[.int .u64 d] 39 rfl
          match i, hi with
          | 0, hi =>
            obtain rfl : (d : Int) = e := by simpa using hi
            exact hV.cell 0 _ rfl
          | i + 1, hi => simp at hi
        have hk1 : p + j + 1 ≤ 1099511627776 := by omega
        obtain ⟨zs, hzs⟩ : ∃ zs, natsI (encNums b (ms.take k) ++ bitsL x j) = zs := ⟨_, rfl⟩
        rw [hzs] at HOW
        have HZ := Lib.hid hzs
        clear hzs
        go_upto_region 36 with (at_builtin; (refine wpList_append_U rfl (.tmp 83) (.tmp 86) rfl (w.heap.size + 1) _ (p + j) zs rfl HOW.out (some ⟨wr.heap.size, 0, none⟩) 1 1 [(d : Int)] rfl rfl HR1.out hk1 hbase ?_; intro v2 w7 hown7 hg7 hat7; have hb7 : Below (w.heap.size + 1) (wr.alloc (.cells #[.int .u64 d] 39)) w7 := (Below.refl _ _).grown hg7 hbase (fun q hq => (HOW.out.lt q hq).1); obtain ⟨g2, cap2, hv2⟩ := own_slice hown7; rw [hv2]))
        rw [hv2, ← HZ.out, show natsI (encNums b (ms.take k) ++ bitsL x j) ++ [(d : Int)] = natsI (encNums b (ms.take k) ++ bitsL x j ++ [d]) from (natsI_append (encNums b (ms.take k) ++ bitsL x j) [d]).symm] at hown7
        have hx7 := (hx.alloc (.cells #[.int .u64 d] 39)).belowB hb7 (by omega)
        have hbw7 : Below w.heap.size w w7 := (hbw.alloc (by have := hbw.size; omega) (.cells #[.int .u64 d] 39)).trans (hb7.mono (by omega))
        have hz7 := hb7.size
        rw [← HBL.out] at hown7
        go_wp2_with fail
        go_roundw
        case rel => exact ⟨j + 1, _, cap2, q2, by omega, by go_num, rfl, rfl, HQ2.out, hq264, hx7, hown7, hbw7, by omega⟩
        case measure => simp [intOf]; omega
      · obtain rfl : j = b := by omega
        obtain ⟨⟨x0, x1, x2, x3, x4, x5⟩, ⟨x6, x7, x8, x9, x10, x11⟩, x12⟩ := hx.get6
        by_cases hxb : x < 2 ^ j
        · have hq0 : q = 0 := by rw [hq.out]; exact Nat.div_eq_of_lt hxb
          subst hq0
          have HA2 := Lib.hid (all_take HN.out hall.out hxb)
          have HT2 : Hid (encNums j (ms.take k) ++ bitsL x j = encNums j (ms.take (k + 1))) := (encNums_take HN.out).symm
          have HP : Hid (p + j = (k + 1) * j) := by show p + j = (k + 1) * j; rw [hp.out, Nat.succ_mul]
          rw [HT2.out] at hown
          clear hxb
          go_wp2_with fail
          go_roundw
          case rel => exact ⟨k + 1, p + j, _, cp2, by omega, by go_num, rfl, HP.out, by omega, HA2.out, hx, hown, hbw, hsz⟩
          case measure => simp [intOf]; omega
        · have hq0 : 0 < q := by rw [hq.out]; exact Nat.div_pos (by omega) (Nat.two_pow_pos j)
          have hbad : ¬ okNums j ms := fun h => hxb (h x (List.mem_of_getElem? HN.out))
          have HBAD := Lib.hid hbad
          clear hbad hxb
          go_wp2_with fail
          go_ret2
          exact .inr ⟨HBAD.out, rfl, hbw⟩
theorem encOne_step (l n j : Nat) (hj : j < l) : (encOne l n).take (j + 1) = (encOne l n).take j ++ [if j = n then 1 else 0] := by
  have h : (encOne l n)[j]? = some (if j = n then 1 else 0) := by
    unfold encOne
    by_cases h : j = n
    · subst h
      rw [List.getElem?_set_self (by rw [List.length_replicate]; exact hj), if_pos rfl]
    · rw [List.getElem?_set_ne (fun e => h e.symm), List.getElem?_replicate, if_pos hj, if_neg h]
  rw [List.take_add_one, h]
  rfl

set_option maxHeartbeats 8000000 in
theorem ref9_Encode_hist (l c n : Nat) (hl1 : 1 ≤ l) (hl64 : l ≤ 64) (vm : Value) (w : World) (hm : SlU w w.heap.size vm (natsI [n]))
    (HC : Hid (∀ wz, Calls Try.prog 49 #[.agg #[.int .i64 4, .int .i64 f, .int .i64 0, .int .i64 l, .int .i64 0, .int .i64 c]] wz (RetC 0 wz)))
    (HO : Hid (∀ wz, Calls Try.prog 62 #[.agg #[.int .i64 4, .int .i64 f, .int .i64 0, .int .i64 l, .int .i64 0, .int .i64 c]] wz (RetI l wz))) :
    Calls Try.prog 40 #[.agg #[.int .i64 4, .int .i64 f, .int .i64 0, .int .i64 l, .int .i64 0, .int .i64 c], vm] w (RetEncR (okOne l n) (encOne l n) w) := by
  obtain ⟨⟨A, cc, rfl, hcc, hcm, hA⟩, hok⟩ := hm
  rw [natsI_length] at hcc hA ⊢
  obtain ⟨bb, o, rfl, hB, hr⟩ := hA (by simp)
  have hn64 : n ≤ 18446744073709551615 := by have := (hok (n : Int) (by simp [natsI])).2; omega
  have D0 : Hid (∀ wz, Below w.heap.size w wz → wz.cell? ⟨bb, o, none⟩ = some (.int .u64 n)) := fun wz hb => (hr.below hb hB) 0 n rfl
  have HEL := Lib.hid (encOne_length l n)
  have hwl : IntKind.u64.wrap (l : Int) = (l : Int) := IntWalk.u64_in _ (by omega)
  have hb00 : Below w.heap.size w w := Below.refl _ _
  clear hA hr hok
  rw [show ([n] : List Nat).length = 1 from rfl]
  go_enter Try.func40, Try.ntmps40
  go_upto_region 1 with fail
  have hx := Vs.new w [.int .i64 4, .int .i64 f, .int .i64 0, .int .i64 l, .int .i64 0, .int .i64 c] #[.int .i64 4, .int .i64 f, .int .i64 0, .int .i64 l, .int .i64 0, .int .i64 c] 72 rfl
  have hbA : Below w.heap.size w (w.alloc (.cells #[.int .i64 4, .int .i64 f, .int .i64 0, .int .i64 l, .int .i64 0, .int .i64 c] 72)) := by repeat (first | exact Below.refl _ _ | with_reducible assumption | (refine bl_alloc ?_ (Nat.le_refl _) _))
  replace hb00 := bl_call hb00 (Nat.le_refl _) hbA
  clear hbA
  generalize w.alloc (.cells #[.int .i64 4, .int .i64 f, .int .i64 0, .int .i64 l, .int .i64 0, .int .i64 c] 72) = w1 at hb00 hx ⊢
  obtain ⟨⟨x0, x1, x2, x3, x4, x5⟩, ⟨x6, x7, x8, x9, x10, x11⟩, x12⟩ := hx.get6
  go_upto_region 11 with (first
    | (go_at_call 49; refine (HC.out _).mono ?_; rintro e w2 ⟨rfl, hb2⟩; replace hb00 := bl_call hb00 (Nat.le_refl _) hb2; replace hx := hx.call hb2; clear x0 x1 x2 x3 x4 x5 x6 x7 x8 x9 x10 x11 x12; clear hb2; obtain ⟨⟨x0, x1, x2, x3, x4, x5⟩, ⟨x6, x7, x8, x9, x10, x11⟩, x12⟩ := hx.get6)
    | (go_at_call 62; refine (HO.out _).mono ?_; rintro e w3 ⟨rfl, hb3⟩; replace hb00 := bl_call hb00 (Nat.le_refl _) hb3; replace hx := hx.call hb3; clear x0 x1 x2 x3 x4 x5 x6 x7 x8 x9 x10 x11 x12; clear hb3; obtain ⟨⟨x0, x1, x2, x3, x4, x5⟩, ⟨x6, x7, x8, x9, x10, x11⟩, x12⟩ := hx.get6))
  have hsz : w.heap.size + 1 ≤ w3.heap.size := hx.lt
  clear HC HO
  clear x0 x1 x2 x3 x4 x5 x6 x7 x8 x9 x10 x11 x12
  go_wp2_with fail
  go_loopw [8, 10] (fun v8 i wr => ∃ (k p : Nat) (zs : List Nat) (A' : Option Addr) (cp : Nat), k ≤ 1 ∧ i = .int .i64 k ∧ v8 = .slice A' p cp ∧ Hid ((k = 0 ∧ p = 0 ∧ zs = []) ∨ (k = 1 ∧ p = l ∧ zs = encOne l n ∧ okOne l n)) ∧
      Vs wr w.heap.size [.int .i64 4, .int .i64 f, .int .i64 0, .int .i64 l, .int .i64 0, .int .i64 c] ∧ wr.ownsRow (w.heap.size + 1) 39 1 (.slice A' p cp) p (cellsU (natsI zs)) ∧ Below w.heap.size w wr ∧ w.heap.size + 1 ≤ wr.heap.size) (fun _ i _ => 1 - (intOf i).toNat)
  case atStart => exact ⟨0, 0, [], none, 0, Nat.zero_le _, rfl, rfl, .inl ⟨rfl, rfl, rfl⟩, hx, World.ownsRow_nil _ _ _ _, hb00, hsz⟩
  case round =>
    clear hx hb00 hsz
    obtain ⟨k, p, zs, A', cp, hk, rfl, rfl, hor, hx, hown, hbw, hsz⟩ := hrel
    by_cases hlt : k < 1
    rotate_left
    · obtain rfl : k = 1 := by omega
      obtain ⟨rfl, rfl, hgood⟩ : p = l ∧ zs = encOne l n ∧ okOne l n := by
        rcases hor.out with ⟨h, _⟩ | ⟨_, h⟩
        · omega
        · exact h
      have HG := Lib.hid hgood
      clear hgood
      obtain ⟨⟨x0, x1, x2, x3, x4, x5⟩, ⟨x6, x7, x8, x9, x10, x11⟩, x12⟩ := hx.get6
      go_wp2_with fail
      go_ret2
      exact .inl ⟨HG.out, _, rfl, own_nats hown HEL.out (fun e he => by have := encOne_le _ n e he; omega), hbw⟩
    obtain rfl : k = 0 := by omega
    obtain ⟨rfl, rfl⟩ : p = 0 ∧ zs = [] := by
      rcases hor.out with ⟨_, h⟩ | ⟨h, _⟩
      · exact h
      · omega
    have d0 := D0.out _ hbw
    obtain ⟨⟨x0, x1, x2, x3, x4, x5⟩, ⟨x6, x7, x8, x9, x10, x11⟩, x12⟩ := hx.get6
    by_cases hnl : n < l
    rotate_left
    · have hd : decide ((l : Int) ≤ (n : Int)) = true := decide_eq_true (by omega)
      have HNG : Hid (¬ okOne l n) := hnl
      have hle : l ≤ n := by omega
      clear hnl
      go_wp2_with fail
      go_ret2
      exact .inr ⟨HNG.out, rfl, hbw⟩
    have hd : decide ((l : Int) ≤ (n : Int)) = false := decide_eq_false (by omega)
    have HNG : Hid (okOne l n) := hnl
    go_upto_region 24 with fail
    clear d0
    clear x0 x1 x2 x3 x4 x5 x6 x7 x8 x9 x10 x11 x12
    go_wp2_with fail
    go_loopw [8, 12] (fun v8 i wr => ∃ (j : Nat) (A' : Option Addr) (cp : Nat), j ≤ l ∧ i = .int .i64 j ∧ v8 = .slice A' j cp ∧
      Vs wr w.heap.size [.int .i64 4, .int .i64 f, .int .i64 0, .int .i64 l, .int .i64 0, .int .i64 c] ∧ wr.ownsRow (w.heap.size + 1) 39 1 (.slice A' j cp) j (cellsU (natsI ((encOne l n).take j))) ∧ Below w.heap.size w wr ∧ w.heap.size + 1 ≤ wr.heap.size) (fun _ i _ => l - (intOf i).toNat)
    case atStart => exact ⟨0, A', cp, Nat.zero_le _, rfl, rfl, hx, by rw [List.take_zero]; exact hown, hbw, hsz⟩
    case round =>
      clear hx hown hbw hsz
      obtain ⟨j, A2, cp2, hj, rfl, rfl, hx, hown, hbw, hsz⟩ := hrel
      by_cases hjb : j < l
      · have hst := encOne_step l n j hjb
        have hwj : IntKind.u64.wrap (j : Int) = (j : Int) := IntWalk.u64_in _ (by omega)
        obtain ⟨⟨x0, x1, x2, x3, x4, x5⟩, ⟨x6, x7, x8, x9, x10, x11⟩, x12⟩ := hx.get6
        by_cases hjn : j = n
        · rw [if_pos hjn] at hst
          have HST := Lib.hid hst
          have hje : ((j : Int) == (n : Int)) = true := by rw [beq_iff_eq]; omega
          clear hst hjn
          have HOW := Lib.hid (hown.alloc (.cells #[.int .u64 1] 39))
          have hbase : w.heap.size + 1 ≤ (wr.alloc (.cells #[.int .u64 1] 39)).heap.size := by rw [World.size_alloc]; omega
          have HR1 : Hid (0 < 1 → ∃ b o, (some ⟨wr.heap.size, 0, none⟩ : Option Addr) = some ⟨b, o, none⟩ ∧ RowU (wr.alloc (.cells #[.int .u64 1] 39)) b o [(1 : Int)]) := by
            intro _
            refine ⟨_, _, rfl, fun i e hi => ?_⟩
            have hV := Vs.new wr [.int .u64 1] #[.int .u64 1] 39 rfl
            match i, hi with
            | 0, hi =>
              obtain rfl : (1 : Int) = e := by simpa using hi
              exact hV.cell 0 _ rfl
            | i + 1, hi => simp at hi
          have hk1 : j + 1 ≤ 1099511627776 := by omega
          obtain ⟨zs, hzs⟩ : ∃ zs, natsI ((encOne l n).take j) = zs := ⟨_, rfl⟩
          rw [hzs] at HOW
          have HZ := Lib.hid hzs
          clear hzs
          go_upto_region 25 with (at_builtin; (refine wpList_append_U rfl (.tmp 70) (.tmp 72) rfl (w.heap.size + 1) _ (j) zs rfl HOW.out (some ⟨wr.heap.size, 0, none⟩) 1 1 [(1 : Int)] rfl rfl HR1.out hk1 hbase ?_; intro v2 w7 hown7 hg7 hat7; have hb7 : Below (w.heap.size + 1) (wr.alloc (.cells #[.int .u64 1] 39)) w7 := (Below.refl _ _).grown hg7 hbase (fun q hq => (HOW.out.lt q hq).1); obtain ⟨g2, cap2, hv2⟩ := own_slice hown7; rw [hv2]))
          rw [hv2, ← HZ.out, show natsI ((encOne l n).take j) ++ [(1 : Int)] = natsI ((encOne l n).take j ++ [1]) from (natsI_append ((encOne l n).take j) [1]).symm] at hown7
          have hx7 := (hx.alloc (.cells #[.int .u64 1] 39)).belowB hb7 (by omega)
          have hbw7 : Below w.heap.size w w7 := (hbw.alloc (by have := hbw.size; omega) (.cells #[.int .u64 1] 39)).trans (hb7.mono (by omega))
          have hz7 := hb7.size
          rw [← HST.out] at hown7
          go_wp2_with fail
          go_roundw
          case rel => exact ⟨j + 1, _, cap2, by omega, by go_num, rfl, hx7, hown7, hbw7, by omega⟩
          case measure => simp [intOf]; omega
        · rw [if_neg hjn] at hst
          have HST := Lib.hid hst
          have hje : ((j : Int) == (n : Int)) = false := by rw [beq_eq_false_iff_ne]; omega
          clear hst
          have HOW := Lib.hid (hown.alloc (.cells #[.int .u64 0] 39))
          have hbase : w.heap.size + 1 ≤ (wr.alloc (.cells #[.int .u64 0] 39)).heap.size := by rw [World.size_alloc]; omega
          have HR1 : Hid (0 < 1 → ∃ b o, (some ⟨wr.heap.size, 0, none⟩ : Option Addr) = some ⟨b, o, none⟩ ∧ RowU (wr.alloc (.cells #[.int .u64 0] 39)) b o [(0 : Int)]) := by
            intro _
            refine ⟨_, _, rfl, fun i e hi => ?_⟩
            have hV := Vs.new wr [.int .u64 0] #[.int .u64 0] 39 rfl
            match i, hi with
            | 0, hi =>
              obtain rfl : (0 : Int) = e := by simpa using hi
              exact hV.cell 0 _ rfl
            | i + 1, hi => simp at hi
          have hk1 : j + 1 ≤ 1099511627776 := by omega
          obtain ⟨zs, hzs⟩ : ∃ zs, natsI ((encOne l n).take j) = zs := ⟨_, rfl⟩
          rw [hzs] at HOW
          have HZ := Lib.hid hzs
          clear hzs
          go_upto_region 25 with (at_builtin; (refine wpList_append_U rfl (.tmp 70) (.tmp 72) rfl (w.heap.size + 1) _ (j) zs rfl HOW.out (some ⟨wr.heap.size, 0, none⟩) 1 1 [(0 : Int)] rfl rfl HR1.out hk1 hbase ?_; intro v2 w7 hown7 hg7 hat7; have hb7 : Below (w.heap.size + 1) (wr.alloc (.cells #[.int .u64 0] 39)) w7 := (Below.refl _ _).grown hg7 hbase (fun q hq => (HOW.out.lt q hq).1); obtain ⟨g2, cap2, hv2⟩ := own_slice hown7; rw [hv2]))
          rw [hv2, ← HZ.out, show natsI ((encOne l n).take j) ++ [(0 : Int)] = natsI ((encOne l n).take j ++ [0]) from (natsI_append ((encOne l n).take j) [0]).symm] at hown7
          have hx7 := (hx.alloc (.cells #[.int .u64 0] 39)).belowB hb7 (by omega)
          have hbw7 : Below w.heap.size w w7 := (hbw.alloc (by have := hbw.size; omega) (.cells #[.int .u64 0] 39)).trans (hb7.mono (by omega))
          have hz7 := hb7.size
          rw [← HST.out] at hown7
          go_wp2_with fail
          go_roundw
          case rel => exact ⟨j + 1, _, cap2, by omega, by go_num, rfl, hx7, hown7, hbw7, by omega⟩
          case measure => simp [intOf]; omega
      · obtain rfl : j = l := by omega
        rw [List.take_of_length_le (by rw [HEL.out]; exact Nat.le_refl _)] at hown
        obtain ⟨⟨x0, x1, x2, x3, x4, x5⟩, ⟨x6, x7, x8, x9, x10, x11⟩, x12⟩ := hx.get6
        go_wp2_with fail
        go_roundw
        case rel => exact ⟨1, j, encOne j n, _, cp2, by omega, rfl, rfl, .inr ⟨rfl, rfl, rfl, HNG.out⟩, hx, hown, hbw, hsz⟩
        case measure => simp [intOf]
set_option maxHeartbeats 8000000 in
theorem ref9_Encode_count (vm : Value) (ms : List Nat) (w : World) (hm : SlU w w.heap.size vm (natsI ms)) (hl : ms.length = 1)
    (HC : Hid (∀ wz, Calls Try.prog 49 #[.agg #[.int .i64 1, .int .i64 f, .int .i64 0, .int .i64 0, .int .i64 0, .int .i64 0]] wz (RetC 0 wz)))
    (HO : Hid (∀ wz, Calls Try.prog 62 #[.agg #[.int .i64 1, .int .i64 f, .int .i64 0, .int .i64 0, .int .i64 0, .int .i64 0]] wz fun e w' => e = .returned (.int .i64 1) ∧ Below wz.heap.size wz w')) :
    Calls Try.prog 40 #[.agg #[.int .i64 1, .int .i64 f, .int .i64 0, .int .i64 0, .int .i64 0, .int .i64 0], vm] w (RetEncR (∀ x, x ∈ ms → x ≤ 1) ms w) := by
  obtain ⟨⟨A, cc, rfl, hcc, hcm, hA⟩, hok⟩ := hm
  rw [natsI_length, hl] at hcc hA
  rw [natsI_length, hl]
  have HL := Lib.hid hl
  have hb00 : Below w.heap.size w w := Below.refl _ _
  clear hl hok
  go_enter Try.func40, Try.ntmps40
  go_upto_region 1 with fail
  have hx := Vs.new w [.int .i64 1, .int .i64 f, .int .i64 0, .int .i64 0, .int .i64 0, .int .i64 0] #[.int .i64 1, .int .i64 f, .int .i64 0, .int .i64 0, .int .i64 0, .int .i64 0] 72 rfl
  have hbA : Below w.heap.size w (w.alloc (.cells #[.int .i64 1, .int .i64 f, .int .i64 0, .int .i64 0, .int .i64 0, .int .i64 0] 72)) := by repeat (first | exact Below.refl _ _ | with_reducible assumption | (refine bl_alloc ?_ (Nat.le_refl _) _))
  replace hb00 := bl_call hb00 (Nat.le_refl _) hbA
  clear hbA
  generalize w.alloc (.cells #[.int .i64 1, .int .i64 f, .int .i64 0, .int .i64 0, .int .i64 0, .int .i64 0] 72) = w1 at hb00 hx ⊢
  obtain ⟨⟨x0, x1, x2, x3, x4, x5⟩, ⟨x6, x7, x8, x9, x10, x11⟩, x12⟩ := hx.get6
  go_upto_region 11 with (first
    | (go_at_call 49; refine (HC.out _).mono ?_; rintro e w2 ⟨rfl, hb2⟩; replace hb00 := bl_call hb00 (Nat.le_refl _) hb2; replace hx := hx.call hb2; clear x0 x1 x2 x3 x4 x5 x6 x7 x8 x9 x10 x11 x12; clear hb2; obtain ⟨⟨x0, x1, x2, x3, x4, x5⟩, ⟨x6, x7, x8, x9, x10, x11⟩, x12⟩ := hx.get6)
    | (go_at_call 62; refine (HO.out _).mono ?_; rintro e w3 ⟨rfl, hb3⟩; replace hb00 := bl_call hb00 (Nat.le_refl _) hb3; replace hx := hx.call hb3; clear x0 x1 x2 x3 x4 x5 x6 x7 x8 x9 x10 x11 x12; clear hb3; obtain ⟨⟨x0, x1, x2, x3, x4, x5⟩, ⟨x6, x7, x8, x9, x10, x11⟩, x12⟩ := hx.get6))
  have hsz : w.heap.size + 1 ≤ w3.heap.size := hx.lt
  clear HC HO
  clear x0 x1 x2 x3 x4 x5 x6 x7 x8 x9 x10 x11 x12
  go_wp2_with fail
  go_loopw [8, 9, 10] (fun v8 v9 i wr => ∃ (k s : Nat) (A' : Option Addr) (cp : Nat), k ≤ 1 ∧ i = .int .i64 k ∧ v8 = .slice A' k cp ∧ v9 = .int .i64 s ∧ s ≤ k ∧ Hid (∀ x, x ∈ ms.take k → x ≤ 1) ∧
      Vs wr w.heap.size [.int .i64 1, .int .i64 f, .int .i64 0, .int .i64 0, .int .i64 0, .int .i64 0] ∧ wr.ownsRow (w.heap.size + 1) 39 1 (.slice A' k cp) k (cellsU (natsI (ms.take k))) ∧ Below w.heap.size w wr ∧ w.heap.size + 1 ≤ wr.heap.size) (fun _ _ i _ => 1 - (intOf i).toNat)
  case atStart => exact ⟨0, 0, none, 0, Nat.zero_le _, rfl, rfl, rfl, Nat.le_refl _, fun x h => (by simp at h), hx, World.ownsRow_nil _ _ _ _, hb00, hsz⟩
  case round =>
    clear hx hb00 hsz
    obtain ⟨k, s, A', cp, hk, rfl, rfl, rfl, hsk, hall, hx, hown, hbw, hsz⟩ := hrel
    obtain ⟨⟨x0, x1, x2, x3, x4, x5⟩, ⟨x6, x7, x8, x9, x10, x11⟩, x12⟩ := hx.get6
    by_cases hlt : k < 1
    rotate_left
    · obtain rfl : k = 1 := by omega
      rw [List.take_of_length_le (by rw [HL.out]; exact Nat.le_refl _)] at hall hown
      go_wp2_with fail
      go_ret2
      exact .inl ⟨hall.out, _, rfl, own_nats hown HL.out (fun e he => by have := hall.out e he; omega), hbw⟩
    obtain ⟨bb, o, rfl, hB, hr⟩ := hA (by omega)
    obtain ⟨x, hx9⟩ : ∃ n, ms[k]? = some n := ⟨_, List.getElem?_eq_getElem (by rw [HL.out]; exact hlt)⟩
    have d0 := (hr.below hbw hB) _ _ (natsI_at hx9)
    have HN := Lib.hid hx9
    clear hx9 hr hA
    by_cases hx1 : x ≤ 1
    · have HA2 := Lib.hid (all_take HN.out hall.out hx1)
      have HT : Hid (ms.take (k + 1) = ms.take k ++ [x]) := by show ms.take (k + 1) = _; rw [List.take_add_one, HN.out]; rfl
      have HOW := Lib.hid (hown.alloc (.cells #[.int .u64 x] 39))
      have hbase : w.heap.size + 1 ≤ (wr.alloc (.cells #[.int .u64 x] 39)).heap.size := by rw [World.size_alloc]; omega
      have HR1 : Hid (0 < 1 → ∃ b o, (some ⟨wr.heap.size, 0, none⟩ : Option Addr) = some ⟨b, o, none⟩ ∧ RowU (wr.alloc (.cells #[.int .u64 x] 39)) b o [(x : Int)]) := by
        intro _
        refine ⟨_, _, rfl, fun i e hi => ?_⟩
        have hV := Vs.new wr [.int .u64 x] #[.int .u64 x] 39 rfl
        match i, hi with
        | 0, hi =>
          obtain rfl : (x : Int) = e := by simpa using hi
          exact hV.cell 0 _ rfl
        | i + 1, hi => simp at hi
      have hk1 : k + 1 ≤ 1099511627776 := by omega
      obtain ⟨zs, hzs⟩ : ∃ zs, natsI (ms.take k) = zs := ⟨_, rfl⟩
      rw [hzs] at HOW
      have HZ := Lib.hid hzs
      clear hzs
      go_upto_region 13 with (at_builtin; (refine wpList_append_U rfl (.tmp 49) (.tmp 51) rfl (w.heap.size + 1) _ (k) zs rfl HOW.out (some ⟨wr.heap.size, 0, none⟩) 1 1 [(x : Int)] rfl rfl HR1.out hk1 hbase ?_; intro v2 w7 hown7 hg7 hat7; have hb7 : Below (w.heap.size + 1) (wr.alloc (.cells #[.int .u64 x] 39)) w7 := (Below.refl _ _).grown hg7 hbase (fun q hq => (HOW.out.lt q hq).1); obtain ⟨g2, cap2, hv2⟩ := own_slice hown7; rw [hv2]))
      rw [hv2, ← HZ.out, show natsI (ms.take k) ++ [(x : Int)] = natsI (ms.take k ++ [x]) from (natsI_append (ms.take k) [x]).symm] at hown7
      have hx7 := (hx.alloc (.cells #[.int .u64 x] 39)).belowB hb7 (by omega)
      have hbw7 : Below w.heap.size w w7 := (hbw.alloc (by have := hbw.size; omega) (.cells #[.int .u64 x] 39)).trans (hb7.mono (by omega))
      have hz7 := hb7.size
      rw [← HT.out] at hown7
      go_wp2_with fail
      go_roundw
      case rel => exact ⟨k + 1, s + x, _, cap2, by omega, by go_num, rfl, by go_num, by omega, HA2.out, hx7, hown7, hbw7, by omega⟩
      case measure => simp [intOf]; omega
    · have hbad : ¬ (∀ x, x ∈ ms → x ≤ 1) := fun h => hx1 (h x (List.mem_of_getElem? HN.out))
      have HBAD := Lib.hid hbad
      clear hbad
      go_wp2_with fail
      go_ret2
      exact .inr ⟨HBAD.out, rfl, hbw⟩

set_option maxHeartbeats 8000000 in
theorem ref9_Encode_multi (l m c : Nat) (hl64 : l ≤ 64) (hml : m ≤ l) (vm : Value) (ms : List Nat) (w : World) (hm : SlU w w.heap.size vm (natsI ms)) (hl : ms.length = l)
    (HC : Hid (∀ wz, Calls Try.prog 49 #[.agg #[.int .i64 5, .int .i64 f, .int .i64 0, .int .i64 l, .int .i64 m, .int .i64 c]] wz (RetC 0 wz)))
    (HO : Hid (∀ wz, Calls Try.prog 62 #[.agg #[.int .i64 5, .int .i64 f, .int .i64 0, .int .i64 l, .int .i64 m, .int .i64 c]] wz (RetI l wz))) :
    Calls Try.prog 40 #[.agg #[.int .i64 5, .int .i64 f, .int .i64 0, .int .i64 l, .int .i64 m, .int .i64 c], vm] w (RetEncR (okMulti m ms) (encMulti m ms) w) := by
  obtain ⟨⟨A, cc, rfl, hcc, hcm, hA⟩, hok⟩ := hm
  rw [natsI_length, hl] at hcc hA
  rw [natsI_length, hl]
  have HL := Lib.hid hl
  have hb00 : Below w.heap.size w w := Below.refl _ _
  have HOFF := Lib.hid (fun wz => ref9_Offset 5 f 0 l c m (by omega) wz)
  have HWB := Lib.hid (fun wz => ref9_WeightBits 5 f 0 l c m (by omega) wz)
  have hq7 := (bitLen_small m (by omega)).1
  have hoff : offN m ≤ 128 := by
    have h2 : 2 ^ Lib.bitLen m ≤ 2 ^ 7 := Nat.pow_le_pow_right (by omega) hq7
    have h3 : (2 : Nat) ^ 7 = 128 := rfl
    show 2 ^ Lib.bitLen m - 1 - m ≤ 128
    omega
  have HE : Hid (∀ s, ms.sum = s → encMulti m ms = ms ++ bitsL (s + offN m) (Lib.bitLen m)) := fun s h => by unfold encMulti; rw [h]
  generalize offN m = of at *
  generalize Lib.bitLen m = q at *
  clear hl hok
  go_enter Try.func40, Try.ntmps40
  go_upto_region 1 with fail
  have hx := Vs.new w [.int .i64 5, .int .i64 f, .int .i64 0, .int .i64 l, .int .i64 m, .int .i64 c] #[.int .i64 5, .int .i64 f, .int .i64 0, .int .i64 l, .int .i64 m, .int .i64 c] 72 rfl
  have hbA : Below w.heap.size w (w.alloc (.cells #[.int .i64 5, .int .i64 f, .int .i64 0, .int .i64 l, .int .i64 m, .int .i64 c] 72)) := by repeat (first | exact Below.refl _ _ | with_reducible assumption | (refine bl_alloc ?_ (Nat.le_refl _) _))
  replace hb00 := bl_call hb00 (Nat.le_refl _) hbA
  clear hbA
  generalize w.alloc (.cells #[.int .i64 5, .int .i64 f, .int .i64 0, .int .i64 l, .int .i64 m, .int .i64 c] 72) = w1 at hb00 hx ⊢
  obtain ⟨⟨x0, x1, x2, x3, x4, x5⟩, ⟨x6, x7, x8, x9, x10, x11⟩, x12⟩ := hx.get6
  go_upto_region 11 with (first
    | (go_at_call 49; refine (HC.out _).mono ?_; rintro e w2 ⟨rfl, hb2⟩; replace hb00 := bl_call hb00 (Nat.le_refl _) hb2; replace hx := hx.call hb2; clear x0 x1 x2 x3 x4 x5 x6 x7 x8 x9 x10 x11 x12; clear hb2; obtain ⟨⟨x0, x1, x2, x3, x4, x5⟩, ⟨x6, x7, x8, x9, x10, x11⟩, x12⟩ := hx.get6)
    | (go_at_call 62; refine (HO.out _).mono ?_; rintro e w3 ⟨rfl, hb3⟩; replace hb00 := bl_call hb00 (Nat.le_refl _) hb3; replace hx := hx.call hb3; clear x0 x1 x2 x3 x4 x5 x6 x7 x8 x9 x10 x11 x12; clear hb3; obtain ⟨⟨x0, x1, x2, x3, x4, x5⟩, ⟨x6, x7, x8, x9, x10, x11⟩, x12⟩ := hx.get6))
  have hsz : w.heap.size + 1 ≤ w3.heap.size := hx.lt
  clear HC HO
  clear x0 x1 x2 x3 x4 x5 x6 x7 x8 x9 x10 x11 x12
  go_wp2_with fail
  go_loopw [8, 9, 10] (fun v8 v9 i wr => ∃ (k s : Nat) (A' : Option Addr) (cp : Nat), k ≤ l ∧ i = .int .i64 k ∧ v8 = .slice A' k cp ∧ v9 = .int .i64 s ∧ s ≤ k ∧ Hid ((ms.take k).sum = s) ∧ Hid (∀ x, x ∈ ms.take k → x ≤ 1) ∧
      Vs wr w.heap.size [.int .i64 5, .int .i64 f, .int .i64 0, .int .i64 l, .int .i64 m, .int .i64 c] ∧ wr.ownsRow (w.heap.size + 1) 39 1 (.slice A' k cp) k (cellsU (natsI (ms.take k))) ∧ Below w.heap.size w wr ∧ w.heap.size + 1 ≤ wr.heap.size) (fun _ _ i _ => l - (intOf i).toNat)
  case atStart => exact ⟨0, 0, none, 0, Nat.zero_le _, rfl, rfl, rfl, Nat.le_refl _, rfl, fun x h => (by simp at h), hx, World.ownsRow_nil _ _ _ _, hb00, hsz⟩
  case round =>
    clear hx hb00 hsz
    obtain ⟨k, s, A', cp, hk, rfl, rfl, rfl, hsk, hsum, hall, hx, hown, hbw, hsz⟩ := hrel
    by_cases hlt : k < l
    · obtain ⟨bb, o, rfl, hB, hr⟩ := hA (by omega)
      obtain ⟨x, hx9⟩ : ∃ n, ms[k]? = some n := ⟨_, List.getElem?_eq_getElem (by rw [HL.out]; exact hlt)⟩
      have d0 := (hr.below hbw hB) _ _ (natsI_at hx9)
      have HN := Lib.hid hx9
      clear hx9 hr hA
      obtain ⟨⟨x0, x1, x2, x3, x4, x5⟩, ⟨x6, x7, x8, x9, x10, x11⟩, x12⟩ := hx.get6
      by_cases hx1 : x ≤ 1
      · have HA2 := Lib.hid (all_take HN.out hall.out hx1)
        have HT : Hid (ms.take (k + 1) = ms.take k ++ [x]) := by show ms.take (k + 1) = _; rw [List.take_add_one, HN.out]; rfl
        have HS2 : Hid ((ms.take (k + 1)).sum = s + x) := by show (ms.take (k + 1)).sum = s + x; rw [sum_take HN.out, hsum.out]
        have HOW := Lib.hid (hown.alloc (.cells #[.int .u64 x] 39))
        have hbase : w.heap.size + 1 ≤ (wr.alloc (.cells #[.int .u64 x] 39)).heap.size := by rw [World.size_alloc]; omega
        have HR1 : Hid (0 < 1 → ∃ b o, (some ⟨wr.heap.size, 0, none⟩ : Option Addr) = some ⟨b, o, none⟩ ∧ RowU (wr.alloc (.cells #[.int .u64 x] 39)) b o [(x : Int)]) := by
          intro _
          refine ⟨_, _, rfl, fun i e hi => ?_⟩
          have hV := Vs.new wr [.int .u64 x] #[.int .u64 x] 39 rfl
          match i, hi with
          | 0, hi =>
            obtain rfl : (x : Int) = e := by simpa using hi
            exact hV.cell 0 _ rfl
          | i + 1, hi => simp at hi
        have hk1 : k + 1 ≤ 1099511627776 := by omega
        obtain ⟨zs, hzs⟩ : ∃ zs, natsI (ms.take k) = zs := ⟨_, rfl⟩
        rw [hzs] at HOW
        have HZ := Lib.hid hzs
        clear hzs
        go_upto_region 13 with (at_builtin; (refine wpList_append_U rfl (.tmp 49) (.tmp 51) rfl (w.heap.size + 1) _ (k) zs rfl HOW.out (some ⟨wr.heap.size, 0, none⟩) 1 1 [(x : Int)] rfl rfl HR1.out hk1 hbase ?_; intro v2 w7 hown7 hg7 hat7; have hb7 : Below (w.heap.size + 1) (wr.alloc (.cells #[.int .u64 x] 39)) w7 := (Below.refl _ _).grown hg7 hbase (fun q hq => (HOW.out.lt q hq).1); obtain ⟨g2, cap2, hv2⟩ := own_slice hown7; rw [hv2]))
        rw [hv2, ← HZ.out, show natsI (ms.take k) ++ [(x : Int)] = natsI (ms.take k ++ [x]) from (natsI_append (ms.take k) [x]).symm] at hown7
        have hx7 := (hx.alloc (.cells #[.int .u64 x] 39)).belowB hb7 (by omega)
        have hbw7 : Below w.heap.size w w7 := (hbw.alloc (by have := hbw.size; omega) (.cells #[.int .u64 x] 39)).trans (hb7.mono (by omega))
        have hz7 := hb7.size
        rw [← HT.out] at hown7
        go_wp2_with fail
        go_roundw
        case rel => exact ⟨k + 1, s + x, _, cap2, by omega, by go_num, rfl, by go_num, by omega, HS2.out, HA2.out, hx7, hown7, hbw7, by omega⟩
        case measure => simp [intOf]; omega
      · have hbad : ¬ okMulti m ms := fun h => hx1 (h.1 x (List.mem_of_getElem? HN.out))
        have HBAD := Lib.hid hbad
        clear hbad
        go_wp2_with fail
        go_ret2
        exact .inr ⟨HBAD.out, rfl, hbw⟩
    obtain rfl : k = l := by omega
    rw [List.take_of_length_le (by rw [HL.out]; exact Nat.le_refl _)] at hsum hall hown
    by_cases hsm : s ≤ m
    rotate_left
    · have hbad : ¬ okMulti m ms := fun h => hsm (by rw [← hsum.out]; exact h.2)
      have HBAD := Lib.hid hbad
      obtain ⟨⟨x0, x1, x2, x3, x4, x5⟩, ⟨x6, x7, x8, x9, x10, x11⟩, x12⟩ := hx.get6
      clear hbad
      go_wp2_with fail
      go_ret2
      exact .inr ⟨HBAD.out, rfl, hbw⟩
    have HGOOD : Hid (okMulti m ms) := ⟨hall.out, by rw [hsum.out]; exact hsm⟩
    have HEE := Lib.hid (HE.out s hsum.out)
    obtain ⟨NN, hNN⟩ : ∃ N, s + of = N := ⟨_, rfl⟩
    rw [hNN] at HEE
    have hNN2 : NN ≤ 256 := by omega
    have hNi : (s : Int) + (of : Int) = (NN : Int) := by omega
    clear hNN
    obtain ⟨⟨x0, x1, x2, x3, x4, x5⟩, ⟨x6, x7, x8, x9, x10, x11⟩, x12⟩ := hx.get6
    go_upto_region 44 with (first
      | (go_at_call 99; refine (HOFF.out _).mono ?_; rintro e w5 ⟨rfl, hb5⟩; replace hbw := bl_call hbw (Nat.le_refl _) hb5; replace hx := hx.call hb5; replace hown := own_call hown hb5; clear x0 x1 x2 x3 x4 x5 x6 x7 x8 x9 x10 x11 x12; clear hb5; obtain ⟨⟨x0, x1, x2, x3, x4, x5⟩, ⟨x6, x7, x8, x9, x10, x11⟩, x12⟩ := hx.get6))
    clear x0 x1 x2 x3 x4 x5 x6 x7 x8 x9 x10 x11 x12
    have hz5 := hx.lt
    have hown5 := hown
    clear hown HOFF
    have HLK : Hid (ms ++ bitsL NN 0 = ms) := List.append_nil _
    have HEL : Hid ((encMulti m ms).length = k + q) := by show (encMulti m ms).length = k + q; rw [HEE.out, List.length_append, HL.out, bitsL_length]
    go_wp2_with fail
    go_loopw [8, 15, 16] (fun v8 v15 i wr => ∃ (j : Nat) (A' : Option Addr) (cp r : Nat), j ≤ q ∧ i = .int .i64 j ∧ v8 = .slice A' (k + j) cp ∧ v15 = .int .i64 r ∧ Hid (r = NN / 2 ^ j) ∧ r ≤ 256 ∧
      Vs wr w.heap.size [.int .i64 5, .int .i64 f, .int .i64 0, .int .i64 k, .int .i64 m, .int .i64 c] ∧ wr.ownsRow (w.heap.size + 1) 39 1 (.slice A' (k + j) cp) (k + j) (cellsU (natsI (ms ++ bitsL NN j))) ∧ Below w.heap.size w wr ∧ w.heap.size + 1 ≤ wr.heap.size) (fun _ _ i _ => q - (intOf i).toNat)
    case atStart => exact ⟨0, A', cp, NN, Nat.zero_le _, rfl, rfl, rfl, (by rw [Nat.pow_zero, Nat.div_one] : NN = NN / 2 ^ 0), hNN2, hx, by rw [HLK.out]; exact hown5, hbw, by omega⟩
    case round =>
      clear hx hown5 hbw hsz hz5
      obtain ⟨j, A2, cp2, r, hj, rfl, rfl, rfl, hr, hr2, hx, hown, hbw, hsz⟩ := hrel
      obtain ⟨⟨x0, x1, x2, x3, x4, x5⟩, ⟨x6, x7, x8, x9, x10, x11⟩, x12⟩ := hx.get6
      by_cases hjq : j < q
      · obtain ⟨d, hd1, hdl⟩ : ∃ d : Nat, (r : Int) % 2 = (d : Int) ∧ d = r % 2 := ⟨r % 2, by rw [Int.natCast_emod]; rfl, rfl⟩
        have hd2 : (r : Int).tmod 2 = (d : Int) := by rw [Int.tmod_eq_emod_of_nonneg (by omega)]; exact hd1
        obtain ⟨r2, hq1, hq2⟩ : ∃ q2 : Nat, (r : Int) / 2 = (q2 : Int) ∧ q2 = r / 2 := ⟨r / 2, by rw [Int.natCast_ediv]; rfl, rfl⟩
        have hq3 : (r : Int).tdiv 2 = (r2 : Int) := by rw [Int.tdiv_eq_ediv_of_nonneg (by omega)]; exact hq1
        have hd64 : IntKind.u64.wrap (d : Int) = (d : Int) := IntWalk.u64_in _ (by omega)
        have hdi : IntKind.i64.wrap (d : Int) = (d : Int) := IntWalk.i64_in _ (by omega)
        have hr22 : r2 ≤ 256 := by omega
        have HQ2 : Hid (r2 = NN / 2 ^ (j + 1)) := by show r2 = _; rw [hq2, hr.out, Nat.pow_succ, Nat.div_div_eq_div_mul]
        have HBL : Hid (ms ++ bitsL NN (j + 1) = ms ++ bitsL NN j ++ [d]) := by
          show ms ++ (bitsL NN j ++ [NN / 2 ^ j % 2]) = _
          rw [← hr.out, ← hdl, List.append_assoc]
        clear hdl hq2
        go_upto_region 46 with (first
          | (go_at_call 100; refine (HWB.out _).mono ?_; rintro e w6 ⟨rfl, hb6⟩; replace hbw := bl_call hbw (Nat.le_refl _) hb6; replace hx := hx.call hb6; replace hown := own_call hown hb6))
        have hsz6 : w.heap.size + 1 ≤ w6.heap.size := by have := hb6.size; omega
        clear x0 x1 x2 x3 x4 x5 x6 x7 x8 x9 x10 x11 x12
        clear hb6
        obtain ⟨⟨x0, x1, x2, x3, x4, x5⟩, ⟨x6, x7, x8, x9, x10, x11⟩, x12⟩ := hx.get6
        have HOW := Lib.hid (hown.alloc (.cells #[.int .u64 d] 39))
        have hbase : w.heap.size + 1 ≤ (w6.alloc (.cells #[.int .u64 d] 39)).heap.size := by rw [World.size_alloc]; omega
        have HR1 : Hid (0 < 1 → ∃ b o, (some ⟨w6.heap.size, 0, none⟩ : Option Addr) = some ⟨b, o, none⟩ ∧ RowU (w6.alloc (.cells #[.int .u64 d] 39)) b o [(d : Int)]) := by
          intro _
          refine ⟨_, _, rfl, fun i e hi => ?_⟩
          have hV := Vs.new w6 [.int .u64 d] #[.int .u64 d] 39 rfl
          match i, hi with
          | 0, hi =>
            obtain rfl : (d : Int) = e := by simpa using hi
            exact hV.cell 0 _ rfl
          | i + 1, hi => simp at hi
        have hk1 : k + j + 1 ≤ 1099511627776 := by omega
        obtain ⟨zs, hzs⟩ : ∃ zs, natsI (ms ++ bitsL NN j) = zs := ⟨_, rfl⟩
        rw [hzs] at HOW
        have HZ := Lib.hid hzs
        clear hzs
        go_upto_region 47 with (at_builtin; (refine wpList_append_U rfl (.tmp 109) (.tmp 113) rfl (w.heap.size + 1) _ (k + j) zs rfl HOW.out (some ⟨w6.heap.size, 0, none⟩) 1 1 [(d : Int)] rfl rfl HR1.out hk1 hbase ?_; intro v2 w7 hown7 hg7 hat7; have hb7 : Below (w.heap.size + 1) (w6.alloc (.cells #[.int .u64 d] 39)) w7 := (Below.refl _ _).grown hg7 hbase (fun q hq => (HOW.out.lt q hq).1); obtain ⟨g2, cap2, hv2⟩ := own_slice hown7; rw [hv2]))
        rw [hv2, ← HZ.out, show natsI (ms ++ bitsL NN j) ++ [(d : Int)] = natsI (ms ++ bitsL NN j ++ [d]) from (natsI_append (ms ++ bitsL NN j) [d]).symm] at hown7
        have hx7 := (hx.alloc (.cells #[.int .u64 d] 39)).belowB hb7 (by omega)
        have hbw7 : Below w.heap.size w w7 := (hbw.alloc (by have := hbw.size; omega) (.cells #[.int .u64 d] 39)).trans (hb7.mono (by omega))
        have hz7 := hb7.size
        rw [← HBL.out] at hown7
        go_wp2_with fail
        go_roundw
        case rel => exact ⟨j + 1, _, cap2, r2, by omega, by go_num, rfl, rfl, HQ2.out, hr22, hx7, hown7, hbw7, by omega⟩
        case measure => simp [intOf]; omega
      · obtain rfl : j = q := by omega
        go_wp2_with (first
          | (go_at_call 100; refine (HWB.out _).mono ?_; rintro e w6 ⟨rfl, hb6⟩; replace hbw := bl_call hbw (Nat.le_refl _) hb6; replace hx := hx.call hb6; replace hown := own_call hown hb6))
        go_ret2
        rw [← HEE.out] at hown
        exact .inl ⟨HGOOD.out, _, rfl, own_nats hown HEL.out (fun e he => by
          rw [HEE.out] at he
          rcases List.mem_append.1 he with h | h
          · have := hall.out e h; omega
          · have := bitsL_le _ _ e h; omega), hbw⟩

theorem ref9_Encode {f : Nat} (hf : IsF f) (y : CK) (hy : y.ok) (hcalls : ¬ 511 < y.calls) (vm : Value) (ms : List Nat) (w : World) (hm : SlU w w.heap.size vm (natsI ms)) (hl : ms.length = y.meas) :
    Calls Try.prog 40 #[y.rval f, vm] w (RetEncR (okEnc y ms) (encL y ms) w) := by
  have HC : Hid (∀ wz, Calls Try.prog 49 #[y.rval f] wz (RetC 0 wz)) := by
    intro wz
    have h := ref9_Check_ok hf y hy wz
    rwa [CK.code_ok hcalls] at h
  have HO := Lib.hid (fun wz => ref9_Out f y hy wz)
  cases y with
  | count => exact ref9_Encode_count vm ms w hm hl HC HO
  | sum b => exact ref9_Encode_nums2 b 1 0 0 0 hy.1 hy.2 (by omega) vm ms w hm hl HC HO
  | vec b n c => exact ref9_Encode_nums3 b n 0 c n hy.1.1 hy.1.2 hy.2.1.2 vm ms w hm hl HC HO
  | hist l c =>
    match ms, hl with
    | [n], _ => exact ref9_Encode_hist l c n hy.1.1 hy.1.2 vm w hm HC HO
  | multi l m c => exact ref9_Encode_multi l m c hy.1.2 hy.2.1.2 vm ms w hm hl HC HO

set_option maxHeartbeats 2000000 in
theorem ref9_Encode_size {f : Nat} (hf : IsF f) (y : CK) (hy : y.ok) (hcalls : ¬ 511 < y.calls) (A : Option Addr) (len cp : Nat) (w : World) (hl : ¬ len = y.meas) :
    Calls Try.prog 40 #[y.rval f, .slice A len cp] w (RetNil 9 w) := by
  have HC : Hid (∀ wz, Calls Try.prog 49 #[y.rval f] wz (RetC 0 wz)) := by
    intro wz
    have h := ref9_Check_ok hf y hy wz
    rwa [CK.code_ok hcalls] at h
  have HO := Lib.hid (fun wz => ref9_Out f y hy wz)
  have hb00 : Below w.heap.size w w := Below.refl _ _
  have hmeas : (y.k = 4 ∧ y.meas = 1) ∨ (¬ (y.k = 4) ∧ y.meas = y.nout) := by
    cases y with
    | hist l c => exact .inl ⟨rfl, rfl⟩
    | count => exact .inr ⟨by decide, rfl⟩
    | sum b => exact .inr ⟨by show ¬ (2 = 4); decide, rfl⟩
    | vec b n c => exact .inr ⟨by show ¬ (3 = 4); decide, rfl⟩
    | multi l m c => exact .inr ⟨by show ¬ (5 = 4); decide, rfl⟩
  unfold CK.rval at HC HO ⊢
  obtain ⟨no, hno⟩ : ∃ n, y.nout = n := ⟨_, rfl⟩
  rw [hno] at HO hmeas
  obtain ⟨me, hme⟩ : ∃ n, y.meas = n := ⟨_, rfl⟩
  rw [hme] at hl hmeas
  obtain ⟨K, hK⟩ : ∃ K : Int, ((y.k : Nat) : Int) = K := ⟨_, rfl⟩
  have hmeas2 : (K = 4 ∧ me = 1) ∨ ((K == 4) = false ∧ me = no) := by
    rcases hmeas with ⟨h1, h2⟩ | ⟨h1, h2⟩
    · exact .inl ⟨by omega, h2⟩
    · exact .inr ⟨by rw [beq_eq_false_iff_ne]; omega, h2⟩
  rw [hK] at HC HO ⊢
  generalize ((y.b : Nat) : Int) = yb at *
  generalize ((y.l : Nat) : Int) = yl at *
  generalize ((y.m : Nat) : Int) = ym at *
  generalize ((y.c : Nat) : Int) = yc at *
  clear hmeas hno hme hK hy hcalls
  rcases hmeas2 with ⟨rfl, rfl⟩ | ⟨hk, rfl⟩
  · skip
    go_enter Try.func40, Try.ntmps40
    go_upto_region 1 with fail
    have hx := Vs.new w [.int .i64 4, .int .i64 f, .int .i64 yb, .int .i64 yl, .int .i64 ym, .int .i64 yc] #[.int .i64 4, .int .i64 f, .int .i64 yb, .int .i64 yl, .int .i64 ym, .int .i64 yc] 72 rfl
    have hbA : Below w.heap.size w (w.alloc (.cells #[.int .i64 4, .int .i64 f, .int .i64 yb, .int .i64 yl, .int .i64 ym, .int .i64 yc] 72)) := by repeat (first | exact Below.refl _ _ | with_reducible assumption | (refine bl_alloc ?_ (Nat.le_refl _) _))
    replace hb00 := bl_call hb00 (Nat.le_refl _) hbA
    clear hbA
    generalize w.alloc (.cells #[.int .i64 4, .int .i64 f, .int .i64 yb, .int .i64 yl, .int .i64 ym, .int .i64 yc] 72) = w1 at hb00 hx ⊢
    obtain ⟨⟨x0, x1, x2, x3, x4, x5⟩, ⟨x6, x7, x8, x9, x10, x11⟩, x12⟩ := hx.get6
    go_wp2_with (first
      | (go_at_call 49; refine (HC.out _).mono ?_; rintro e w2 ⟨rfl, hb2⟩; replace hb00 := bl_call hb00 (Nat.le_refl _) hb2; replace hx := hx.call hb2; clear x0 x1 x2 x3 x4 x5 x6 x7 x8 x9 x10 x11 x12; clear hb2; obtain ⟨⟨x0, x1, x2, x3, x4, x5⟩, ⟨x6, x7, x8, x9, x10, x11⟩, x12⟩ := hx.get6)
      | (go_at_call 62; refine (HO.out _).mono ?_; rintro e w3 ⟨rfl, hb3⟩; replace hb00 := bl_call hb00 (Nat.le_refl _) hb3; replace hx := hx.call hb3; clear x0 x1 x2 x3 x4 x5 x6 x7 x8 x9 x10 x11 x12; clear hb3; obtain ⟨⟨x0, x1, x2, x3, x4, x5⟩, ⟨x6, x7, x8, x9, x10, x11⟩, x12⟩ := hx.get6))
    go_ret2
    exact ⟨rfl, hb00⟩
  · skip
    go_enter Try.func40, Try.ntmps40
    go_upto_region 1 with fail
    have hx := Vs.new w [.int .i64 K, .int .i64 f, .int .i64 yb, .int .i64 yl, .int .i64 ym, .int .i64 yc] #[.int .i64 K, .int .i64 f, .int .i64 yb, .int .i64 yl, .int .i64 ym, .int .i64 yc] 72 rfl
    have hbA : Below w.heap.size w (w.alloc (.cells #[.int .i64 K, .int .i64 f, .int .i64 yb, .int .i64 yl, .int .i64 ym, .int .i64 yc] 72)) := by repeat (first | exact Below.refl _ _ | with_reducible assumption | (refine bl_alloc ?_ (Nat.le_refl _) _))
    replace hb00 := bl_call hb00 (Nat.le_refl _) hbA
    clear hbA
    generalize w.alloc (.cells #[.int .i64 K, .int .i64 f, .int .i64 yb, .int .i64 yl, .int .i64 ym, .int .i64 yc] 72) = w1 at hb00 hx ⊢
    obtain ⟨⟨x0, x1, x2, x3, x4, x5⟩, ⟨x6, x7, x8, x9, x10, x11⟩, x12⟩ := hx.get6
    go_wp2_with (first
      | (go_at_call 49; refine (HC.out _).mono ?_; rintro e w2 ⟨rfl, hb2⟩; replace hb00 := bl_call hb00 (Nat.le_refl _) hb2; replace hx := hx.call hb2; clear x0 x1 x2 x3 x4 x5 x6 x7 x8 x9 x10 x11 x12; clear hb2; obtain ⟨⟨x0, x1, x2, x3, x4, x5⟩, ⟨x6, x7, x8, x9, x10, x11⟩, x12⟩ := hx.get6)
      | (go_at_call 62; refine (HO.out _).mono ?_; rintro e w3 ⟨rfl, hb3⟩; replace hb00 := bl_call hb00 (Nat.le_refl _) hb3; replace hx := hx.call hb3; clear x0 x1 x2 x3 x4 x5 x6 x7 x8 x9 x10 x11 x12; clear hb3; obtain ⟨⟨x0, x1, x2, x3, x4, x5⟩, ⟨x6, x7, x8, x9, x10, x11⟩, x12⟩ := hx.get6))
    go_ret2
    exact ⟨rfl, hb00⟩

set_option maxHeartbeats 2000000 in
theorem ref9_Encode_no (x : Raw) (n : Int) (hn : n ≠ 0) (HC : ∀ wz, Calls Try.prog 49 #[x.rval] wz (RetC n wz)) (vm : Value) (w : World) :
    Calls Try.prog 40 #[x.rval, vm] w (RetNil n w) := by
  have HC := Lib.hid HC
  obtain ⟨xk, xf, xb, xl, xm, xc⟩ := x
  unfold Raw.rval at HC ⊢
  dsimp only at HC ⊢
  have hn1 : (n == 0) = false := by simpa using hn
  have hn2 : (n != 0) = true := by simpa using hn
  have hb00 : Below w.heap.size w w := Below.refl _ _
  clear hn
  go_enter Try.func40, Try.ntmps40
  go_upto_region 1 with fail
  have hx := Vs.new w [.int .i64 xk, .int .i64 xf, .int .i64 xb, .int .i64 xl, .int .i64 xm, .int .i64 xc] #[.int .i64 xk, .int .i64 xf, .int .i64 xb, .int .i64 xl, .int .i64 xm, .int .i64 xc] 72 rfl
  have hbA : Below w.heap.size w (w.alloc (.cells #[.int .i64 xk, .int .i64 xf, .int .i64 xb, .int .i64 xl, .int .i64 xm, .int .i64 xc] 72)) := by repeat (first | exact Below.refl _ _ | with_reducible assumption | (refine bl_alloc ?_ (Nat.le_refl _) _))
  replace hb00 := bl_call hb00 (Nat.le_refl _) hbA
  clear hbA
  generalize w.alloc (.cells #[.int .i64 xk, .int .i64 xf, .int .i64 xb, .int .i64 xl, .int .i64 xm, .int .i64 xc] 72) = w1 at hb00 hx ⊢
  obtain ⟨⟨x0, x1, x2, x3, x4, x5⟩, ⟨x6, x7, x8, x9, x10, x11⟩, x12⟩ := hx.get6
  go_wp2_with (first
    | (go_at_call 49; refine (HC.out _).mono ?_; rintro e w2 ⟨rfl, hb2⟩; replace hb00 := bl_call hb00 (Nat.le_refl _) hb2; replace hx := hx.call hb2))
  go_ret2
  exact ⟨rfl, hb00⟩
end

end Go.Proofs.Ytiphahbeedeebaa

namespace Go.Proofs.Ytiphahbeedeebaa
open Go.RowKit Fm
set_option linter.unusedVariables false
set_option maxRecDepth 100000

theorem law10_Measure {f : Nat} (hf : IsF f) (y : CK) (hy : y.ok) (vl : Value) (xs : List Int) (w : World) (hl : SlU w w.heap.size vl xs) (hl100 : xs.length ≤ 1000000) :
    Calls Try.prog 37 #[y.val f, vl] w (RetM y w) := by
  cases y with
  | count => exact law10_Measure_count hf hy vl xs w hl hl100
  | sum b => exact law10_Measure_sum hf b hy vl xs w hl hl100
  | vec b l c => exact law10_Measure_vec hf b l c hy vl xs w hl hl100
  | hist l c => exact law10_Measure_hist hf l c hy vl xs w hl hl100
  | multi l m c => exact law10_Measure_multi hf l m c hy vl xs w hl hl100

/-- small numbers as elements -/
def nEs (l : List Nat) : List E := l.map fun n : Nat => ((n : Int), 0)
theorem nEs_length (l : List Nat) : (nEs l).length = l.length := List.length_map ..
theorem nEs_at {l : List Nat} {i n : Nat} (h : l[i]? = some n) : (nEs l)[i]? = some ((n : Int), 0) := by unfold nEs; rw [List.getElem?_map, h]; rfl

section
variable {f : Nat} (hf : IsF f)
include hf

theorem esK_nK {l : List Nat} (h : ∀ x, x ∈ l → x < 4294967296) : esK (l.map (nK f)) = nEs l := by
  unfold esK nEs
  rw [List.map_map]
  exact List.map_congr_left fun x hx => eK_nK hf (h x hx)
end

theorem enc_le {y : CK} {ms : List Nat} (h : okEnc y ms) : ∀ e, e ∈ encL y ms → e ≤ 1 := by
  intro e he
  cases y with
  | count => exact h e he
  | sum b => exact encNums_le b ms e he
  | vec b l c => exact encNums_le b ms e he
  | hist l c => exact encOne_le l _ e he
  | multi l m c =>
    rcases List.mem_append.1 (show e ∈ ms ++ bitsL (ms.sum + offN m) (Lib.bitLen m) from he) with h1 | h1
    · exact h.1 e h1
    · exact bitsL_le _ _ e h1

theorem enc_length {y : CK} {ms : List Nat} (hl : ms.length = y.meas) : (encL y ms).length = y.nin := by
  cases y with
  | count => exact hl
  | sum b => exact (encNums_length b ms).trans (by rw [hl]; exact Nat.one_mul b)
  | vec b l c => exact (encNums_length b ms).trans (by rw [hl]; rfl)
  | hist l c => exact encOne_length l _
  | multi l m c =>
    show (ms ++ bitsL (ms.sum + offN m) (Lib.bitLen m)).length = l + Lib.bitLen m
    rw [List.length_append, bitsL_length, hl]
    rfl

theorem ksum_nK {f : Nat} (l : List Nat) : ksum (l.map (nK f)) = nK f l.sum := by
  have h : ∀ (l : List Nat) (s : Nat), (l.map (nK f)).foldl (· + ·) (nK f s) = nK f (s + l.sum) := by
    intro l
    induction l with
    | nil => intro s; rfl
    | cons a l ih =>
      intro s
      rw [List.map_cons, List.foldl_cons, ← nK_add, ih, List.sum_cons, Nat.add_assoc]
  have := h l 0
  rw [nK_zero, Nat.zero_add] at this
  exact this

theorem nK_mul (f m n : Nat) : nK f (m * n) = nK f m * nK f n := by rw [nK_kI, nK_kI, nK_kI, Int.natCast_mul, kI_mul]

theorem knum_bits (f n : Nat) : ∀ q, knum ((bitsL n q).map (nK f)) = nK f (n % 2 ^ q)
  | 0 => by
    rw [Nat.pow_zero, Nat.mod_one, nK_zero]
    rfl
  | q + 1 => by
    have hq : (bitsL n q).length = q := bitsL_length n q
    have h1 : ((bitsL n (q + 1)).map (nK f))[q]? = some (nK f (n / 2 ^ q % 2)) := by
      rw [List.getElem?_map, bitsL, List.getElem?_append_right (by omega), hq, Nat.sub_self]
      rfl
    have h2 := knum_take _ q _ h1
    have h3 : ((bitsL n (q + 1)).map (nK f)).take (q + 1) = (bitsL n (q + 1)).map (nK f) := List.take_of_length_le (by rw [List.length_map, bitsL_length]; exact Nat.le_refl _)
    have h4 : ((bitsL n (q + 1)).map (nK f)).take q = (bitsL n q).map (nK f) := by
      rw [← List.map_take, bitsL, List.take_append_of_le_length (by omega), List.take_of_length_le (by omega)]
    rw [h3, h4, knum_bits f n q, kpow_nK, ← nK_mul, ← nK_add] at h2
    rw [h2, Nat.mod_pow_succ]

theorem sum_zeros : ∀ l : Nat, (List.replicate l 0).sum = 0
  | 0 => rfl
  | l + 1 => by rw [List.replicate_succ, List.sum_cons, sum_zeros l]
theorem sum_one : ∀ (l n : Nat), n < l → ((List.replicate l 0).set n 1).sum = 1
  | 0, n, h => by omega
  | l + 1, 0, h => by
    rw [List.replicate_succ, List.set_cons_zero, List.sum_cons, sum_zeros]
  | l + 1, n + 1, h => by
    rw [List.replicate_succ, List.set_cons_succ, List.sum_cons, sum_one l n (by omega)]

section
variable {f : Nat} (hf : IsF f)
include hf

omit hf in
/-- what is encoded is a right vector -/
theorem enc_okVec (y : CK) (hy : y.ok) {ms : List Nat} (hl : ms.length = y.meas) (h : okEnc y ms) : okVec y ((encL y ms).map (nK f)) := by
  refine ⟨fun x hx => ?_, ?_⟩
  · obtain ⟨n, hn, rfl⟩ := List.mem_map.1 hx
    have h1 := enc_le h n hn
    rcases (by omega : n = 0 ∨ n = 1) with rfl | rfl
    · exact .inl (nK_zero f)
    · exact .inr (nK_one f)
  · cases y with
    | count => trivial
    | sum b => trivial
    | vec b l c => trivial
    | hist l c =>
      show ksum ((encOne l (ms.headD 0)).map (nK f)) = 1
      rw [ksum_nK, show (encOne l (ms.headD 0)).sum = 1 from sum_one l _ h, nK_one]
    | multi l m c =>
      have hlen : ms.length = l := hl
      have hm : m ≤ 64 := by have := hy.1.2; have := hy.2.1.2; omega
      have hb := bitLen_small m hm
      show ksum (((ms ++ bitsL (ms.sum + offN m) (Lib.bitLen m)).map (nK f)).take l) + nK f (offN m) = knum (((ms ++ bitsL (ms.sum + offN m) (Lib.bitLen m)).map (nK f)).drop l)
      rw [← List.map_take, ← List.map_drop, List.take_append_of_le_length (by omega), List.take_of_length_le (by omega), List.drop_append_of_le_length (by omega), List.drop_of_length_le (by omega), List.nil_append, ksum_nK, knum_bits, ← nK_add,
        Nat.mod_eq_of_lt]
      have h2 : ms.sum ≤ m := h.2
      have h3 := hb.2.1
      show ms.sum + (2 ^ Lib.bitLen m - 1 - m) < 2 ^ Lib.bitLen m
      omega

/-- what is measured of the i-th -/
def tgt (y : CK) (ms : List Nat) : List Nat :=
  match y with
  | .hist l _ => encOne l (ms.headD 0)
  | _ => ms

omit hf in
theorem tgt_length {y : CK} {ms : List Nat} (hl : ms.length = y.meas) : (tgt y ms).length = y.nout := by
  cases y with
  | hist l c => exact encOne_length l _
  | count => exact hl
  | sum b => exact hl
  | vec b l c => exact hl
  | multi l m c => exact hl

omit hf in
theorem tgt_lt {y : CK} (hy : y.ok) {ms : List Nat} (h : okEnc y ms) : ∀ x, x ∈ tgt y ms → x < 4294967296 := by
  intro x hx
  cases y with
  | count => have := h x hx; omega
  | sum b => exact Nat.lt_of_lt_of_le (h x hx) (by have := Nat.pow_le_pow_right (n := 2) (by omega) hy.2; have h32 : (2 : Nat) ^ 32 = 4294967296 := rfl; omega)
  | vec b l c => exact Nat.lt_of_lt_of_le (h x hx) (by have := Nat.pow_le_pow_right (n := 2) (by omega) hy.1.2; have h32 : (2 : Nat) ^ 32 = 4294967296 := rfl; omega)
  | hist l c => have := encOne_le l _ x hx; omega
  | multi l m c => have := h.1 x hx; omega

omit hf in
theorem encNums_at (b : Nat) : ∀ (ms : List Nat) (i n : Nat), ms[i]? = some n → ((encNums b ms).drop (i * b)).take b = bitsL n b
  | [], i, n, h => by simp at h
  | a :: ms, 0, n, h => by
    obtain rfl : a = n := by simpa using h
    show ((bitsL a b ++ encNums b ms).drop (0 * b)).take b = _
    rw [Nat.zero_mul, List.drop_zero, List.take_append_of_le_length (by rw [bitsL_length]; exact Nat.le_refl _), List.take_of_length_le (by rw [bitsL_length]; exact Nat.le_refl _)]
  | a :: ms, i + 1, n, h => by
    show ((bitsL a b ++ encNums b ms).drop ((i + 1) * b)).take b = _
    rw [show (i + 1) * b = (bitsL a b).length + i * b by rw [bitsL_length, Nat.succ_mul, Nat.add_comm], List.drop_append]
    rw [List.drop_of_length_le (by omega), List.nil_append, Nat.add_sub_cancel_left]
    exact encNums_at b ms i n (by simpa using h)

omit hf in
theorem nums_enc (b : Nat) (ms : List Nat) (h : okNums b ms) : numsE (f := f) b ms.length (esK ((encNums b ms).map (nK f))) = esK (ms.map (nK f)) := by
  apply List.ext_getElem?
  intro i
  by_cases hi : i < ms.length
  · have h1 := List.getElem?_eq_getElem hi
    rw [numsE_at b _ _ i hi, esK_at (x := nK f ms[i]) (by rw [List.getElem?_map, h1]; rfl), kEs_esK, ← List.map_drop, ← List.map_take, encNums_at b ms i _ h1, knum_bits, Nat.mod_eq_of_lt (h _ (List.getElem_mem hi))]
  · rw [List.getElem?_eq_none (by rw [numsE_length]; omega), List.getElem?_eq_none (by rw [esK_length, List.length_map]; omega)]

/-- what is summed of an encoded vector is what was measured -/
theorem trunc_enc (y : CK) (hy : y.ok) {ms : List Nat} (hl : ms.length = y.meas) (h : okEnc y ms) : truncE f y (esK ((encL y ms).map (nK f))) = nEs (tgt y ms) := by
  rw [← esK_nK hf (tgt_lt hy h)]
  cases y with
  | sum b =>
    have h1 := nums_enc (f := f) b ms h
    rw [hl] at h1
    exact h1
  | vec b l c =>
    have h1 := nums_enc (f := f) b ms h
    rw [hl] at h1
    exact h1
  | count =>
    show (esK (ms.map (nK f))).take 1 = _
    exact List.take_of_length_le (by rw [esK_length, List.length_map, hl]; exact Nat.le_refl _)
  | hist l c =>
    show (esK ((encOne l (ms.headD 0)).map (nK f))).take l = _
    exact List.take_of_length_le (by rw [esK_length, List.length_map, encOne_length]; exact Nat.le_refl _)
  | multi l m c =>
    have hlen : ms.length = l := hl
    show (esK ((ms ++ bitsL (ms.sum + offN m) (Lib.bitLen m)).map (nK f))).take l = esK (ms.map (nK f))
    rw [List.map_append, esK_append, List.take_append_of_le_length (by rw [esK_length, List.length_map]; omega), List.take_of_length_le (by rw [esK_length, List.length_map]; omega)]

/-! ### what both say of a measure -/
/-- of whatever circuit, whatever measure: an error of both, or an encoded vector -/
def EncSaid (x : Raw) (A : Option Addr) (cp : Nat) (ms : List Nat) : Prop :=
  (∃ c : Int, c ≠ 0 ∧ (∀ w, SlU w w.heap.size (.slice A ms.length cp) (natsI ms) → Calls Try.prog 38 #[x.val, .slice A ms.length cp] w (RetNil c w)) ∧
    (∀ w, SlU w w.heap.size (.slice A ms.length cp) (natsI ms) → Calls Try.prog 40 #[x.rval, .slice A ms.length cp] w (RetNil c w))) ∨
  (∃ F y, x.Is F y ∧ ms.length = y.meas ∧ okEnc y ms)

omit hf in
theorem enc_said {x : Raw} {n : Int} (h : x.Said n) (A : Option Addr) (cp : Nat) (ms : List Nat) : EncSaid x A cp ms := by
  by_cases hn : n = 0
  · obtain ⟨F, y, hI⟩ := h.is hn
    by_cases hl : ms.length = y.meas
    · by_cases hok : okEnc y ms
      · exact .inr ⟨F, y, hI, hl, hok⟩
      · refine .inl ⟨6, by decide, fun w hw => ?_, fun w hw => ?_⟩
        · rw [hI.val]
          refine (circuit_Encode hI.fld y hI.ok hI.calls _ ms w hw hl).mono ?_
          rintro e w' (⟨h1, _⟩ | ⟨_, h2⟩)
          · exact absurd h1 hok
          · exact h2
        · rw [hI.rval]
          refine (ref9_Encode hI.fld y hI.ok hI.calls _ ms w hw hl).mono ?_
          rintro e w' (⟨h1, _⟩ | ⟨_, h2⟩)
          · exact absurd h1 hok
          · exact h2
    · refine .inl ⟨9, by decide, fun w _ => ?_, fun w _ => ?_⟩
      · rw [hI.val]
        exact circuit_Encode_size hI.fld y hI.ok hI.calls A _ cp w hl
      · rw [hI.rval]
        exact ref9_Encode_size hI.fld y hI.ok hI.calls A _ cp w hl
  · exact .inl ⟨n, hn, fun w _ => circuit_Encode_no x n hn h.own _ w, fun w _ => ref9_Encode_no x n hn h.chk _ w⟩

/-- an encoded vector comes back, as elements -/
theorem circuit_Encode_E (y : CK) (hy : y.ok) (hcalls : ¬ 511 < y.calls) (vm : Value) (ms : List Nat) (hl : ms.length = y.meas) (hok : okEnc y ms) (w : World) (hm : SlU w w.heap.size vm (natsI ms)) :
    Calls Try.prog 38 #[y.val f, vm] w fun e w' => ∃ A cp, e = .returned (.tuple #[.slice A y.nin cp, .int .i64 0]) ∧ SlE w' w'.heap.size (.slice A y.nin cp) (nEs (encL y ms)) ∧ Below w.heap.size w w' := by
  refine (circuit_Encode hf y hy hcalls vm ms w hm hl).mono ?_
  rintro e w' (⟨_, v, rfl, hown, hb⟩ | ⟨h1, _⟩)
  · rw [List.length_map, enc_length hl] at hown
    obtain ⟨A, cp, rfl⟩ := own_shape hown
    have h2 := own_sl (by rw [List.length_map, enc_length hl]) hown
    refine ⟨A, cp, rfl, ?_, hb⟩
    rw [← esK_nK hf (fun x hx => by have := enc_le hok x hx; omega)]
    exact h2.toE
  · exact absurd hok h1

end

end Go.Proofs.Ytiphahbeedeebaa
