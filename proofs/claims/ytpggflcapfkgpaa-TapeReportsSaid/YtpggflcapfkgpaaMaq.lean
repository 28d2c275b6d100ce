/-
 Swaps, Enc, Enc2: what the statements of this layer share.
-/
import Derived.BigQuiet
import Derived.Test.YtpggflcapfkgpaaMao
import Derived.Test.YtpggflcapfkgpaaMap
namespace Go.Proofs.Ytpggflcapfkgpaa
open Go.RowKit Fm
set_option linter.unusedVariables false
set_option maxRecDepth 100000

theorem list_eK {f : Nat} : ∀ (l : List E), (∀ e, e ∈ l → ∃ x : Fin (Pm f), eK x = e) → ∃ zs : KL f, esK zs = l
 | [], _ => ⟨[], rfl⟩
 | e :: l, h => by
  obtain ⟨x, hx⟩ := h e (List.mem_cons_self ..)
  obtain ⟨zs, hz⟩ := list_eK l fun e he => h e (List.mem_cons_of_mem _ he)
  exact ⟨x :: zs, by rw [esK_cons, hx, hz]⟩
theorem red_eK {f : Nat} {e : E} (h : RedE ((Pm f : Nat) : Int) e) : ∃ x : Fin (Pm f), eK x = e := by
 obtain ⟨n, h0, h1, rfl⟩ := h
 exact ⟨kI (Pm f) n, by rw [eK_kI, Int.emod_eq_of_lt h0 h1]⟩
theorem law31_someK {f : Nat} (hf : IsF f) (vl : Value) (l : List E) (many step : Nat) (w : World) (hl : SlE w w.heap.size vl l) (hmany : many ≤ 65536) (hstep : step ≤ 16) :
  Calls Try.prog 9 #[.int .i64 f, vl, .int .i64 many, .int .i64 step] w (RetV f many w) := by
 obtain ⟨p0, p1, hr⟩ := (FM.ofN hf).ref
 refine (law31_some f _ p0 p1 (FM.ofN hf) hr vl l many step w hl hmany hstep).mono fun e w' ⟨g, he, hB, hg, hb⟩ => ?_
 obtain ⟨zs, hz⟩ := list_eK (f := f) (someE (f : Int) ((Pm f : Nat) : Int) l many step) fun e he => red_eK (someE_red (FM.ofN hf) l many step e he)
 rw [← hz] at hB
 rw [someE_length] at he
 exact ⟨g, zs, by rw [← esK_length, hz, someE_length], he, hB, hg, hb⟩

theorem BlkE.slN {f n : Nat} {w : World} {g : Nat} {zs : KL f} (h : BlkE w g (esK zs)) (hz : zs.length = n) (hn : n ≤ 1000000) : SlK w w.heap.size (.slice (some ⟨g, 0, none⟩) n n) zs := by
 have h1 := h.slK (by omega) h.lt
 rwa [hz] at h1

section
variable {f : Nat}
theorem subL_back : ∀ (a b : KL f), a.length = b.length → subL a (subL a b) = b
 | [], [], _ => rfl
 | [], _ :: _, h => by simp at h
 | _ :: _, [], h => by simp at h
 | x :: a, y :: b, h => by
  have ih := subL_back a b (by simpa using h)
  unfold subL at ih ⊢
  simp only [List.zipWith_cons_cons]
  rw [ih]
  congr 1
  grind
end

end Go.Proofs.Ytpggflcapfkgpaa

namespace Go.Proofs.Ytpggflcapfkgpaa
open Go.RowKit Fm
set_option linter.unusedVariables false
set_option maxRecDepth 100000

def okNums (b : Nat) (ms : List Nat) : Prop := ∀ x, x ∈ ms → x < 2 ^ b
def encNums (b : Nat) (ms : List Nat) : List Nat := ms.flatMap fun n => bitsL n b
theorem encNums_length (b : Nat) (ms : List Nat) : (encNums b ms).length = ms.length * b := by
 unfold encNums
 induction ms with
 | nil => simp
 | cons x l ih => rw [List.flatMap_cons, List.length_append, ih, bitsL_length, List.length_cons, Nat.succ_mul, Nat.add_comm]
theorem encNums_take {b : Nat} {ms : List Nat} {k n : Nat} (h : ms[k]? = some n) : encNums b (ms.take (k + 1)) = encNums b (ms.take k) ++ bitsL n b := by
 unfold encNums
 rw [List.take_add_one, h, List.flatMap_append]
 simp
def encOne (l n : Nat) : List Nat := (List.replicate l 0).set n 1
theorem encOne_length (l n : Nat) : (encOne l n).length = l := by unfold encOne; rw [List.length_set, List.length_replicate]

section
variable {f : Nat} (hf : IsF f)
include hf

set_option maxHeartbeats 8000000 in
theorem circuit_Encode_nums2 (b n m c : Nat) (N : Int) (hb1 : 1 ≤ b) (hb2 : b ≤ 32) (hn2 : n ≤ 64) (vm : Value) (ms : List Nat) (w : World) (hm : SlU w w.heap.size vm (natsI ms)) (hl : ms.length = n)
  (HC : Hid (∀ wz, Calls Try.prog 15 #[.agg #[.int .u8 2, .int .u8 f, .int .i64 b, .int .i64 N, .int .i64 m, .int .i64 c]] wz (RetC 0 wz)))
  (HO : Hid (∀ wz, Calls Try.prog 16 #[.agg #[.int .u8 2, .int .u8 f, .int .i64 b, .int .i64 N, .int .i64 m, .int .i64 c]] wz (RetI n wz))) :
  Calls Try.prog 6 #[.agg #[.int .u8 2, .int .u8 f, .int .i64 b, .int .i64 N, .int .i64 m, .int .i64 c], vm] w (RetEnc (okNums b ms) ((encNums b ms).map (nK f)) w) := by
 obtain ⟨⟨A, cc, rfl, hcc, hcm, hA⟩, hok⟩ := hm
 rw [natsI_length, hl] at hcc hA
 rw [natsI_length, hl]
 have HL := Lib.hid hl
 have hfb0 : (1 : Int) ≤ (f : Int) := by rcases hf.or with rfl | rfl <;> omega
 have hfb1 : (f : Int) ≤ 2 := by rcases hf.or with rfl | rfl <;> omega
 have HBO := Lib.hid (fun (x : Nat) (hn : x ≤ 18446744073709551615) wz => circuit_bitsOf hf 2 b N m c x b hn (by omega) wz)
 have HBQ : Hid (∀ x : Nat, x ≤ 18446744073709551615 → ∀ wz, Calls Try.prog 18 #[.agg #[.int .u8 2, .int .u8 f, .int .i64 b, .int .i64 N, .int .i64 m, .int .i64 c], .int .u64 x, .int .i64 b] wz fun e w' => ∃ (A9 : Option Addr) (c9 : Nat), e = .returned (Value.slice A9 b c9) ∧ SlK w' w'.heap.size (.slice A9 b c9) ((bitsL x b).map (nK f)) ∧ Below wz.heap.size wz w') := by
  intro x hx wz
  refine (HBO.out x hx wz).mono ?_
  rintro e w' ⟨v, rfl, hown', hb'⟩
  have hlen : ((bitsL x b).map (nK f)).length = b := by rw [List.length_map, bitsL_length]
  rw [hlen] at hown'
  obtain ⟨A9, c9, rfl⟩ := own_shape hown'
  exact ⟨A9, c9, rfl, own_sl hlen hown', hb'⟩
 have hb00 : Below w.heap.size w w := Below.refl _ _
 clear hl HBO
 go_enter Try.func6, Try.ntmps6
 go_upto_region 1 with fail
 have hx := Vs.new w [.int .u8 2, .int .u8 f, .int .i64 b, .int .i64 N, .int .i64 m, .int .i64 c] #[.int .u8 2, .int .u8 f, .int .i64 b, .int .i64 N, .int .i64 m, .int .i64 c] 32 rfl
 have hbA : Below w.heap.size w (w.alloc (.cells #[.int .u8 2, .int .u8 f, .int .i64 b, .int .i64 N, .int .i64 m, .int .i64 c] 32)) := by repeat (first | exact bA | with_reducible assumption | apply bB)
 replace hb00 := bl_call hb00 (Nat.le_refl _) hbA
 clear hbA
 generalize w.alloc (.cells #[.int .u8 2, .int .u8 f, .int .i64 b, .int .i64 N, .int .i64 m, .int .i64 c] 32) = w1 at hb00 hx ⊢
 obtain ⟨⟨x0, x1, x2, x3, x4, x5⟩, ⟨x6, x7, x8, x9, x10, x11⟩, x12⟩ := hx.get6
 go_upto_region 20 with (first
  | (go_at_call 15; refine (HC.out _).mono ?_; rintro e w2 ⟨rfl, hb2⟩; replace hb00 := bl_call hb00 (Nat.le_refl _) hb2; replace hx := hx.call hb2; clear x0 x1 x2 x3 x4 x5 x6 x7 x8 x9 x10 x11 x12; clear hb2; obtain ⟨⟨x0, x1, x2, x3, x4, x5⟩, ⟨x6, x7, x8, x9, x10, x11⟩, x12⟩ := hx.get6)
  | (go_at_call 16; refine (HO.out _).mono ?_; rintro e w3 ⟨rfl, hb3⟩; replace hb00 := bl_call hb00 (Nat.le_refl _) hb3; replace hx := hx.call hb3; clear x0 x1 x2 x3 x4 x5 x6 x7 x8 x9 x10 x11 x12; clear hb3; obtain ⟨⟨x0, x1, x2, x3, x4, x5⟩, ⟨x6, x7, x8, x9, x10, x11⟩, x12⟩ := hx.get6))
 have hsz : w.heap.size + 1 ≤ w3.heap.size := hx.lt
 clear HC HO
 clear x0 x1 x2 x3 x4 x5 x6 x7 x8 x9 x10 x11 x12
 go_wp2_with fail
 go_loopw [8, 56] (fun v8 i wr => ∃ (k p : Nat) (A' : Option Addr) (cp : Nat), k ≤ n ∧ i = .int .i64 k ∧ v8 = .slice A' p cp ∧ Hid (p = k * b) ∧ p ≤ 32 * k ∧ Hid (∀ x, x ∈ ms.take k → x < 2 ^ b) ∧
   Vs wr w.heap.size [.int .u8 2, .int .u8 f, .int .i64 b, .int .i64 N, .int .i64 m, .int .i64 c] ∧ wr.ownsRow (w.heap.size + 1) 55 2 (.slice A' p cp) p (cellsE (esK ((encNums b (ms.take k)).map (nK f)))) ∧ Below w.heap.size w wr ∧ w.heap.size + 1 ≤ wr.heap.size) (fun _ i _ => n - (intOf i).toNat)
 case atStart => exact ⟨0, 0, none, 0, Nat.zero_le _, rfl, rfl, (by rw [Nat.zero_mul] : 0 = 0 * b), by omega, fun x h => (by simp at h), hx, World.ownsRow_nil _ _ _ _, hb00, hsz⟩
 case round =>
  clear hx hb00 hsz
  obtain ⟨k, p, A', cp, hk, rfl, rfl, hp, hp32, hall, hx, hown, hbw, hsz⟩ := hrel
  obtain ⟨⟨x0, x1, x2, x3, x4, x5⟩, ⟨x6, x7, x8, x9, x10, x11⟩, x12⟩ := hx.get6
  by_cases hlt : k < n
  ·obtain ⟨bb, o, rfl, hB, hr⟩ := hA (by omega)
   obtain ⟨x, hx9⟩ : ∃ n, ms[k]? = some n := ⟨_, List.getElem?_eq_getElem (by rw [HL.out]; exact hlt)⟩
   have d0 := (hr.below hbw hB) _ _ (natsI_at hx9)
   have hbnd := hok _ (List.mem_of_getElem? (natsI_at hx9))
   have hx64 : x ≤ 18446744073709551615 := by have := hbnd.2; omega
   have HN := Lib.hid hx9
   clear hx9 hr hA hbnd
   by_cases hxb : x < 2 ^ b
   ·have hsh : (x : Int) / 2 ^ b = 0 := by
     have h1 : x / 2 ^ b = 0 := Nat.div_eq_of_lt hxb
     have h2 : (x : Int) / 2 ^ b = ((x / 2 ^ b : Nat) : Int) := by rw [Int.natCast_ediv, Int.natCast_pow]; rfl
     rw [h2, h1]
     rfl
    have HA2 := Lib.hid (all_take HN.out hall.out hxb)
    have HT2 : Hid (esK ((encNums b (ms.take (k + 1))).map (nK f)) = esK ((encNums b (ms.take k)).map (nK f)) ++ esK ((bitsL x b).map (nK f))) := by
     show esK ((encNums b (ms.take (k + 1))).map (nK f)) = _
     rw [encNums_take HN.out, List.map_append, esK_append]
    have HM : Hid ((esK ((bitsL x b).map (nK f))).length = b) := by show (esK _).length = b; rw [esK_length, List.length_map, bitsL_length]
    have HP : Hid (p + b = (k + 1) * b) := by show p + b = (k + 1) * b; rw [hp.out, Nat.succ_mul]
    have hk1 : p + b ≤ 1099511627776 := by omega
    obtain ⟨ys, hys⟩ : ∃ ys, esK ((bitsL x b).map (nK f)) = ys := ⟨_, rfl⟩
    have HYS := Lib.hid hys
    rw [hys] at HT2 HM
    have HBY := Lib.hid (fun wz => HBQ.out x hx64 wz)
    clear hxb hys
    go_wp2_with (first
     | (go_at_call 18; refine (HBY.out _).mono ?_; rintro e w6 ⟨A9, c9, rfl, hE, hb6⟩; have hbw6 := bl_call hbw (Nat.le_refl _) hb6; have hx6 := hx.call hb6; have HOW := Lib.hid (own_call hown hb6); have hz6 := hb6.size; have hbase : w.heap.size + 1 ≤ w6.heap.size := (by omega); have HR1 : Hid (0 < b → ∃ b o, A9 = some ⟨b, o, none⟩ ∧ RowE w6 b o ys) := (fun hq0 => by
       obtain ⟨A8, c8, h8, _, _, h9⟩ := hE
       have hlen : ((bitsL x b).map (nK f)).length = b := by rw [List.length_map, bitsL_length]
       rw [hlen] at h8 h9
       injection h8 with h1 h2 h3
       subst h1
       obtain ⟨b8, o8, e8, _, r8⟩ := h9 hq0
       rw [HYS.out] at r8
       exact ⟨b8, o8, e8, r8⟩))
     | (at_builtin; (refine wpList_append_E rfl (.tmp 65) (.tmp 70) rfl (w.heap.size + 1) _ p (esK ((encNums b (ms.take k)).map (nK f))) rfl HOW.out A9 b c9 ys rfl HM.out HR1.out hk1 hbase ?_; intro v2 w7 hown7 hg7 hat7; have hb7 : Below (w.heap.size + 1) w6 w7 := (Below.refl _ _).grown hg7 hbase (fun q hq => (HOW.out.lt q hq).1); obtain ⟨A7, cap7, hv7⟩ := own_shape hown7; rw [hv7])))
    rw [hv7, ← HT2.out] at hown7
    have hx7 := hx6.belowB hb7 (by omega)
    have hbw7 : Below w.heap.size w w7 := hbw6.trans (hb7.mono (by omega))
    have hz7 := hb7.size
    go_roundw
    case rel => exact ⟨k + 1, p + b, _, cap7, by omega, by go_num, rfl, HP.out, by omega, HA2.out, hx7, hown7, hbw7, by omega⟩
    case measure => simp [intOf]; omega
   ·have hsh : ((x : Int) / 2 ^ b == 0) = false := by
     have h1 : 0 < x / 2 ^ b := Nat.div_pos (by omega) (Nat.two_pow_pos b)
     have h2 : (x : Int) / 2 ^ b = ((x / 2 ^ b : Nat) : Int) := by rw [Int.natCast_ediv, Int.natCast_pow]; rfl
     rw [h2, beq_eq_false_iff_ne]
     omega
    have hsh2 : ((x : Int) / 2 ^ b != 0) = true := by simpa using hsh
    have hbad : ¬ okNums b ms := fun h => hxb (h x (List.mem_of_getElem? HN.out))
    have HBAD := Lib.hid hbad
    clear hbad hxb
    go_wp2_with fail
    go_ret2
    exact .inr ⟨HBAD.out, rfl, hbw⟩
  ·obtain rfl : k = n := by omega
   rw [List.take_of_length_le (by rw [HL.out]; exact Nat.le_refl _)] at hall hown
   have HLE : Hid (((encNums b ms).map (nK f)).length = p) := by show ((encNums b ms).map (nK f)).length = p; rw [List.length_map, encNums_length, HL.out, hp.out]
   go_wp2_with fail
   go_ret2
   exact .inl ⟨hall.out, _, rfl, by rw [HLE.out]; exact own_mono hown (by omega), hbw⟩
set_option maxHeartbeats 8000000 in
theorem circuit_Encode_nums3 (b n m c : Nat) (N : Int) (hb1 : 1 ≤ b) (hb2 : b ≤ 32) (hn2 : n ≤ 64) (vm : Value) (ms : List Nat) (w : World) (hm : SlU w w.heap.size vm (natsI ms)) (hl : ms.length = n)
  (HC : Hid (∀ wz, Calls Try.prog 15 #[.agg #[.int .u8 3, .int .u8 f, .int .i64 b, .int .i64 N, .int .i64 m, .int .i64 c]] wz (RetC 0 wz)))
  (HO : Hid (∀ wz, Calls Try.prog 16 #[.agg #[.int .u8 3, .int .u8 f, .int .i64 b, .int .i64 N, .int .i64 m, .int .i64 c]] wz (RetI n wz))) :
  Calls Try.prog 6 #[.agg #[.int .u8 3, .int .u8 f, .int .i64 b, .int .i64 N, .int .i64 m, .int .i64 c], vm] w (RetEnc (okNums b ms) ((encNums b ms).map (nK f)) w) := by
 obtain ⟨⟨A, cc, rfl, hcc, hcm, hA⟩, hok⟩ := hm
 rw [natsI_length, hl] at hcc hA
 rw [natsI_length, hl]
 have HL := Lib.hid hl
 have hfb0 : (1 : Int) ≤ (f : Int) := by rcases hf.or with rfl | rfl <;> omega
 have hfb1 : (f : Int) ≤ 2 := by rcases hf.or with rfl | rfl <;> omega
 have HBO := Lib.hid (fun (x : Nat) (hn : x ≤ 18446744073709551615) wz => circuit_bitsOf hf 3 b N m c x b hn (by omega) wz)
 have HBQ : Hid (∀ x : Nat, x ≤ 18446744073709551615 → ∀ wz, Calls Try.prog 18 #[.agg #[.int .u8 3, .int .u8 f, .int .i64 b, .int .i64 N, .int .i64 m, .int .i64 c], .int .u64 x, .int .i64 b] wz fun e w' => ∃ (A9 : Option Addr) (c9 : Nat), e = .returned (Value.slice A9 b c9) ∧ SlK w' w'.heap.size (.slice A9 b c9) ((bitsL x b).map (nK f)) ∧ Below wz.heap.size wz w') := by
  intro x hx wz
  refine (HBO.out x hx wz).mono ?_
  rintro e w' ⟨v, rfl, hown', hb'⟩
  have hlen : ((bitsL x b).map (nK f)).length = b := by rw [List.length_map, bitsL_length]
  rw [hlen] at hown'
  obtain ⟨A9, c9, rfl⟩ := own_shape hown'
  exact ⟨A9, c9, rfl, own_sl hlen hown', hb'⟩
 have hb00 : Below w.heap.size w w := Below.refl _ _
 clear hl HBO
 go_enter Try.func6, Try.ntmps6
 go_upto_region 1 with fail
 have hx := Vs.new w [.int .u8 3, .int .u8 f, .int .i64 b, .int .i64 N, .int .i64 m, .int .i64 c] #[.int .u8 3, .int .u8 f, .int .i64 b, .int .i64 N, .int .i64 m, .int .i64 c] 32 rfl
 have hbA : Below w.heap.size w (w.alloc (.cells #[.int .u8 3, .int .u8 f, .int .i64 b, .int .i64 N, .int .i64 m, .int .i64 c] 32)) := by repeat (first | exact bA | with_reducible assumption | apply bB)
 replace hb00 := bl_call hb00 (Nat.le_refl _) hbA
 clear hbA
 generalize w.alloc (.cells #[.int .u8 3, .int .u8 f, .int .i64 b, .int .i64 N, .int .i64 m, .int .i64 c] 32) = w1 at hb00 hx ⊢
 obtain ⟨⟨x0, x1, x2, x3, x4, x5⟩, ⟨x6, x7, x8, x9, x10, x11⟩, x12⟩ := hx.get6
 go_upto_region 20 with (first
  | (go_at_call 15; refine (HC.out _).mono ?_; rintro e w2 ⟨rfl, hb2⟩; replace hb00 := bl_call hb00 (Nat.le_refl _) hb2; replace hx := hx.call hb2; clear x0 x1 x2 x3 x4 x5 x6 x7 x8 x9 x10 x11 x12; clear hb2; obtain ⟨⟨x0, x1, x2, x3, x4, x5⟩, ⟨x6, x7, x8, x9, x10, x11⟩, x12⟩ := hx.get6)
  | (go_at_call 16; refine (HO.out _).mono ?_; rintro e w3 ⟨rfl, hb3⟩; replace hb00 := bl_call hb00 (Nat.le_refl _) hb3; replace hx := hx.call hb3; clear x0 x1 x2 x3 x4 x5 x6 x7 x8 x9 x10 x11 x12; clear hb3; obtain ⟨⟨x0, x1, x2, x3, x4, x5⟩, ⟨x6, x7, x8, x9, x10, x11⟩, x12⟩ := hx.get6))
 have hsz : w.heap.size + 1 ≤ w3.heap.size := hx.lt
 clear HC HO
 clear x0 x1 x2 x3 x4 x5 x6 x7 x8 x9 x10 x11 x12
 go_wp2_with fail
 go_loopw [8, 56] (fun v8 i wr => ∃ (k p : Nat) (A' : Option Addr) (cp : Nat), k ≤ n ∧ i = .int .i64 k ∧ v8 = .slice A' p cp ∧ Hid (p = k * b) ∧ p ≤ 32 * k ∧ Hid (∀ x, x ∈ ms.take k → x < 2 ^ b) ∧
   Vs wr w.heap.size [.int .u8 3, .int .u8 f, .int .i64 b, .int .i64 N, .int .i64 m, .int .i64 c] ∧ wr.ownsRow (w.heap.size + 1) 55 2 (.slice A' p cp) p (cellsE (esK ((encNums b (ms.take k)).map (nK f)))) ∧ Below w.heap.size w wr ∧ w.heap.size + 1 ≤ wr.heap.size) (fun _ i _ => n - (intOf i).toNat)
 case atStart => exact ⟨0, 0, none, 0, Nat.zero_le _, rfl, rfl, (by rw [Nat.zero_mul] : 0 = 0 * b), by omega, fun x h => (by simp at h), hx, World.ownsRow_nil _ _ _ _, hb00, hsz⟩
 case round =>
  clear hx hb00 hsz
  obtain ⟨k, p, A', cp, hk, rfl, rfl, hp, hp32, hall, hx, hown, hbw, hsz⟩ := hrel
  obtain ⟨⟨x0, x1, x2, x3, x4, x5⟩, ⟨x6, x7, x8, x9, x10, x11⟩, x12⟩ := hx.get6
  by_cases hlt : k < n
  ·obtain ⟨bb, o, rfl, hB, hr⟩ := hA (by omega)
   obtain ⟨x, hx9⟩ : ∃ n, ms[k]? = some n := ⟨_, List.getElem?_eq_getElem (by rw [HL.out]; exact hlt)⟩
   have d0 := (hr.below hbw hB) _ _ (natsI_at hx9)
   have hbnd := hok _ (List.mem_of_getElem? (natsI_at hx9))
   have hx64 : x ≤ 18446744073709551615 := by have := hbnd.2; omega
   have HN := Lib.hid hx9
   clear hx9 hr hA hbnd
   by_cases hxb : x < 2 ^ b
   ·have hsh : (x : Int) / 2 ^ b = 0 := by
     have h1 : x / 2 ^ b = 0 := Nat.div_eq_of_lt hxb
     have h2 : (x : Int) / 2 ^ b = ((x / 2 ^ b : Nat) : Int) := by rw [Int.natCast_ediv, Int.natCast_pow]; rfl
     rw [h2, h1]
     rfl
    have HA2 := Lib.hid (all_take HN.out hall.out hxb)
    have HT2 : Hid (esK ((encNums b (ms.take (k + 1))).map (nK f)) = esK ((encNums b (ms.take k)).map (nK f)) ++ esK ((bitsL x b).map (nK f))) := by
     show esK ((encNums b (ms.take (k + 1))).map (nK f)) = _
     rw [encNums_take HN.out, List.map_append, esK_append]
    have HM : Hid ((esK ((bitsL x b).map (nK f))).length = b) := by show (esK _).length = b; rw [esK_length, List.length_map, bitsL_length]
    have HP : Hid (p + b = (k + 1) * b) := by show p + b = (k + 1) * b; rw [hp.out, Nat.succ_mul]
    have hk1 : p + b ≤ 1099511627776 := by omega
    obtain ⟨ys, hys⟩ : ∃ ys, esK ((bitsL x b).map (nK f)) = ys := ⟨_, rfl⟩
    have HYS := Lib.hid hys
    rw [hys] at HT2 HM
    have HBY := Lib.hid (fun wz => HBQ.out x hx64 wz)
    clear hxb hys
    go_wp2_with (first
     | (go_at_call 18; refine (HBY.out _).mono ?_; rintro e w6 ⟨A9, c9, rfl, hE, hb6⟩; have hbw6 := bl_call hbw (Nat.le_refl _) hb6; have hx6 := hx.call hb6; have HOW := Lib.hid (own_call hown hb6); have hz6 := hb6.size; have hbase : w.heap.size + 1 ≤ w6.heap.size := (by omega); have HR1 : Hid (0 < b → ∃ b o, A9 = some ⟨b, o, none⟩ ∧ RowE w6 b o ys) := (fun hq0 => by
       obtain ⟨A8, c8, h8, _, _, h9⟩ := hE
       have hlen : ((bitsL x b).map (nK f)).length = b := by rw [List.length_map, bitsL_length]
       rw [hlen] at h8 h9
       injection h8 with h1 h2 h3
       subst h1
       obtain ⟨b8, o8, e8, _, r8⟩ := h9 hq0
       rw [HYS.out] at r8
       exact ⟨b8, o8, e8, r8⟩))
     | (at_builtin; (refine wpList_append_E rfl (.tmp 65) (.tmp 70) rfl (w.heap.size + 1) _ p (esK ((encNums b (ms.take k)).map (nK f))) rfl HOW.out A9 b c9 ys rfl HM.out HR1.out hk1 hbase ?_; intro v2 w7 hown7 hg7 hat7; have hb7 : Below (w.heap.size + 1) w6 w7 := (Below.refl _ _).grown hg7 hbase (fun q hq => (HOW.out.lt q hq).1); obtain ⟨A7, cap7, hv7⟩ := own_shape hown7; rw [hv7])))
    rw [hv7, ← HT2.out] at hown7
    have hx7 := hx6.belowB hb7 (by omega)
    have hbw7 : Below w.heap.size w w7 := hbw6.trans (hb7.mono (by omega))
    have hz7 := hb7.size
    go_roundw
    case rel => exact ⟨k + 1, p + b, _, cap7, by omega, by go_num, rfl, HP.out, by omega, HA2.out, hx7, hown7, hbw7, by omega⟩
    case measure => simp [intOf]; omega
   ·have hsh : ((x : Int) / 2 ^ b == 0) = false := by
     have h1 : 0 < x / 2 ^ b := Nat.div_pos (by omega) (Nat.two_pow_pos b)
     have h2 : (x : Int) / 2 ^ b = ((x / 2 ^ b : Nat) : Int) := by rw [Int.natCast_ediv, Int.natCast_pow]; rfl
     rw [h2, beq_eq_false_iff_ne]
     omega
    have hsh2 : ((x : Int) / 2 ^ b != 0) = true := by simpa using hsh
    have hbad : ¬ okNums b ms := fun h => hxb (h x (List.mem_of_getElem? HN.out))
    have HBAD := Lib.hid hbad
    clear hbad hxb
    go_wp2_with fail
    go_ret2
    exact .inr ⟨HBAD.out, rfl, hbw⟩
  ·obtain rfl : k = n := by omega
   rw [List.take_of_length_le (by rw [HL.out]; exact Nat.le_refl _)] at hall hown
   have HLE : Hid (((encNums b ms).map (nK f)).length = p) := by show ((encNums b ms).map (nK f)).length = p; rw [List.length_map, encNums_length, HL.out, hp.out]
   go_wp2_with fail
   go_ret2
   exact .inl ⟨hall.out, _, rfl, by rw [HLE.out]; exact own_mono hown (by omega), hbw⟩
end

end Go.Proofs.Ytpggflcapfkgpaa

namespace Go.Proofs.Ytpggflcapfkgpaa
open Go.RowKit Fm
set_option linter.unusedVariables false
set_option maxRecDepth 100000

def okOne (l n : Nat) : Prop := n < l

section
variable {f : Nat} (hf : IsF f)
include hf

set_option maxHeartbeats 8000000 in
theorem circuit_Encode_count (hcalls : ¬ 511 < CK.count.calls) (vm : Value) (ms : List Nat) (w : World) (hm : SlU w w.heap.size vm (natsI ms)) (hl : ms.length = 1) :
  Calls Try.prog 6 #[CK.count.val f, vm] w (RetEnc (∀ x, x ∈ ms → x ≤ 1) (ms.map (nK f)) w) := by
 have HC : Hid (∀ wz, Calls Try.prog 15 #[CK.count.val f] wz (RetC 0 wz)) := by
  intro wz
  have h := circuit_Check_ok hf .count trivial wz
  rwa [CK.code_ok hcalls] at h
 have HO : Hid (∀ wz, Calls Try.prog 16 #[CK.count.val f] wz fun e w' => e = .returned (.int .i64 1) ∧ Below wz.heap.size wz w') := fun wz => circuit_Out f .count trivial wz
 rw [val_count] at HC HO ⊢
 obtain ⟨⟨A, cc, rfl, hcc, hcm, hA⟩, hok⟩ := hm
 rw [natsI_length, hl] at hcc hA
 rw [natsI_length, hl]
 have HOF := Lib.hid (fun (n : Nat) (hn : n ≤ 18446744073709551615) wz => field_Of hf (n : Int) wz (by omega) (by omega))
 have HL := Lib.hid hl
 have hfb0 : (1 : Int) ≤ (f : Int) := by rcases hf.or with rfl | rfl <;> omega
 have hfb1 : (f : Int) ≤ 2 := by rcases hf.or with rfl | rfl <;> omega
 have hb00 : Below w.heap.size w w := Below.refl _ _
 clear hl hok hcalls
 go_enter Try.func6, Try.ntmps6
 go_upto_region 1 with fail
 have hx := Vs.new w [.int .u8 1, .int .u8 f, .int .i64 0, .int .i64 0, .int .i64 0, .int .i64 0] #[.int .u8 1, .int .u8 f, .int .i64 0, .int .i64 0, .int .i64 0, .int .i64 0] 32 rfl
 have hbA : Below w.heap.size w (w.alloc (.cells #[.int .u8 1, .int .u8 f, .int .i64 0, .int .i64 0, .int .i64 0, .int .i64 0] 32)) := by repeat (first | exact bA | with_reducible assumption | apply bB)
 replace hb00 := bl_call hb00 (Nat.le_refl _) hbA
 clear hbA
 generalize w.alloc (.cells #[.int .u8 1, .int .u8 f, .int .i64 0, .int .i64 0, .int .i64 0, .int .i64 0] 32) = w1 at hb00 hx ⊢
 obtain ⟨⟨x0, x1, x2, x3, x4, x5⟩, ⟨x6, x7, x8, x9, x10, x11⟩, x12⟩ := hx.get6
 go_upto_region 28 with (first
  | (go_at_call 15; refine (HC.out _).mono ?_; rintro e w2 ⟨rfl, hb2⟩; replace hb00 := bl_call hb00 (Nat.le_refl _) hb2; replace hx := hx.call hb2; clear x0 x1 x2 x3 x4 x5 x6 x7 x8 x9 x10 x11 x12; clear hb2; obtain ⟨⟨x0, x1, x2, x3, x4, x5⟩, ⟨x6, x7, x8, x9, x10, x11⟩, x12⟩ := hx.get6)
  | (go_at_call 16; refine (HO.out _).mono ?_; rintro e w3 ⟨rfl, hb3⟩; replace hb00 := bl_call hb00 (Nat.le_refl _) hb3; replace hx := hx.call hb3; clear x0 x1 x2 x3 x4 x5 x6 x7 x8 x9 x10 x11 x12; clear hb3; obtain ⟨⟨x0, x1, x2, x3, x4, x5⟩, ⟨x6, x7, x8, x9, x10, x11⟩, x12⟩ := hx.get6))
 have hsz : w.heap.size + 1 ≤ w3.heap.size := hx.lt
 clear HC HO
 clear x0 x1 x2 x3 x4 x5 x6 x7 x8 x9 x10 x11 x12
 go_wp2_with fail
 go_loopw [8, 9, 76] (fun v8 v9 i wr => ∃ (k : Nat) (A' : Option Addr) (cp s : Nat), k ≤ 1 ∧ i = .int .i64 k ∧ v8 = .slice A' k cp ∧ v9 = .int .i64 s ∧ s ≤ k ∧ Hid (∀ x, x ∈ ms.take k → x ≤ 1) ∧
   Vs wr w.heap.size [.int .u8 1, .int .u8 f, .int .i64 0, .int .i64 0, .int .i64 0, .int .i64 0] ∧ wr.ownsRow (w.heap.size + 1) 55 2 (.slice A' k cp) k (cellsE (esK ((ms.take k).map (nK f)))) ∧ Below w.heap.size w wr ∧ w.heap.size + 1 ≤ wr.heap.size) (fun _ _ i _ => 1 - (intOf i).toNat)
 case atStart => exact ⟨0, none, 0, 0, Nat.zero_le _, rfl, rfl, rfl, Nat.le_refl _, fun x h => (by simp at h), hx, World.ownsRow_nil _ _ _ _, hb00, hsz⟩
 case round =>
  clear hx hb00 hsz
  obtain ⟨k, A', cp, s, hk, rfl, rfl, rfl, hsk, hall, hx, hown, hbw, hsz⟩ := hrel
  obtain ⟨⟨x0, x1, x2, x3, x4, x5⟩, ⟨x6, x7, x8, x9, x10, x11⟩, x12⟩ := hx.get6
  by_cases hlt : k < 1
  ·obtain ⟨b, o, rfl, hB, hr⟩ := hA (by omega)
   obtain ⟨n, hn⟩ : ∃ n, ms[k]? = some n := ⟨_, List.getElem?_eq_getElem (by rw [HL.out]; exact hlt)⟩
   have d0 := (hr.below hbw hB) _ _ (natsI_at hn)
   have HN := Lib.hid hn
   clear hn hr hA
   by_cases hn1 : n ≤ 1
   ·have hn2 : n ≤ 18446744073709551615 := by omega
    have HA2 := Lib.hid (all_take HN.out hall.out hn1)
    have HT2 : Hid (esK ((ms.take (k + 1)).map (nK f)) = esK ((ms.take k).map (nK f)) ++ [eK (nK f n)]) := by
     show esK ((ms.take (k + 1)).map (nK f)) = _
     rw [List.take_add_one, HN.out, List.map_append, esK_append]
     rfl
    have hk1 : k + 1 ≤ 1099511627776 := by omega
    obtain ⟨y, hy⟩ : ∃ y, kL f (n : Int) 0 = y := ⟨_, rfl⟩
    have HOY : Hid (∀ wz, Calls Try.prog 19 #[.int .u8 f, .int .u64 n] wz (RetK y wz)) := by
     intro wz
     have h := HOF.out n hn2 wz
     rwa [hy] at h
    have HTY : Hid (esK ((ms.take (k + 1)).map (nK f)) = esK ((ms.take k).map (nK f)) ++ [eK y]) := by rw [← hy]; exact HT2.out
    clear HT2 hy
    go_wp2_with (first
     | (go_at_call 19; refine (HOY.out _).mono ?_; rintro e w6 ⟨rfl, hb6⟩; have hbw6 := bl_call hbw (Nat.le_refl _) hb6; have hx6 := hx.call hb6; have hown6 := own_call hown hb6; have hs6 := hb6.size; have HOW := Lib.hid (hown6.alloc (.cells #[.int .u64 (lo y), .int .u64 (hi y)] 55)); have hbase : w.heap.size + 1 ≤ (w6.alloc (.cells #[.int .u64 (lo y), .int .u64 (hi y)] 55)).heap.size := (by rw [World.size_alloc]; omega); have HR1 := Lib.hid (show 0 < 1 → ∃ b o, (some ⟨w6.heap.size, 0, none⟩ : Option Addr) = some ⟨b, o, none⟩ ∧ RowE (w6.alloc (.cells #[.int .u64 (lo y), .int .u64 (hi y)] 55)) b o [eK y] from fun _ => ⟨_, _, rfl, (BlkE.new w6 [eK y] _ rfl).rowE⟩); clear hown6)
     | (at_builtin; (refine wpList_append_E rfl (.tmp 86) (.tmp 91) rfl (w.heap.size + 1) _ k (esK ((ms.take k).map (nK f))) rfl HOW.out (some ⟨w6.heap.size, 0, none⟩) 1 1 [eK y] rfl rfl HR1.out hk1 hbase ?_; intro v2 w7 hown7 hg7 hat7; have hb7 : Below (w.heap.size + 1) (w6.alloc (.cells #[.int .u64 (lo y), .int .u64 (hi y)] 55)) w7 := (Below.refl _ _).grown hg7 hbase (fun q hq => (HOW.out.lt q hq).1); obtain ⟨g2, cap2, hv2⟩ := own_slice hown7; rw [hv2])))
    rw [hv2, ← HTY.out] at hown7
    have hx7 := (hx6.alloc (.cells #[.int .u64 (lo y), .int .u64 (hi y)] 55)).belowB hb7 (by omega)
    have hbw7 : Below w.heap.size w w7 := (hbw6.alloc (by omega) (.cells #[.int .u64 (lo y), .int .u64 (hi y)] 55)).trans (hb7.mono (by omega))
    have hz7 := hb7.size
    go_roundw
    case rel => exact ⟨k + 1, _, cap2, s + n, by omega, by go_num, rfl, by go_num, by omega, HA2.out, hx7, hown7, hbw7, by omega⟩
    case measure => simp [intOf]; omega
   ·have hbad : ¬ (∀ x, x ∈ ms → x ≤ 1) := fun h => hn1 (h n (List.mem_of_getElem? HN.out))
    have HBAD := Lib.hid hbad
    clear hbad
    go_wp2_with fail
    go_ret2
    exact .inr ⟨HBAD.out, rfl, hbw⟩
  ·obtain rfl : k = 1 := by omega
   rw [List.take_of_length_le (by rw [HL.out]; exact Nat.le_refl _)] at hall hown
   have HLE : Hid ((ms.map (nK f)).length = 1) := by show (ms.map (nK f)).length = 1; rw [List.length_map, HL.out]
   go_wp2_with fail
   go_ret2
   exact .inl ⟨hall.out, _, rfl, by rw [HLE.out]; exact own_mono hown (by omega), hbw⟩

omit hf in
theorem own_blk {w : World} {g n base : Nat} {xs : List E} (h : BlkE w g xs) (hn : xs.length = n) (hb : base ≤ g) (hm : n ≤ 1099511627776) : w.ownsRow base 55 2 (.slice (some ⟨g, 0, none⟩) n n) n (cellsE xs) := by
 have hl : (cellsE xs).length = n * 2 := by rw [length_cellsE, hn]
 exact ⟨hl, .inr ⟨g, n, _, rfl, hb, h, Nat.le_refl _, by unfold maxLen; omega, by simp [hl], by simp [← hl]⟩⟩

set_option maxHeartbeats 8000000 in
theorem circuit_Encode_hist (l c : Nat) (hy : (CK.hist l c).ok) (hcalls : ¬ 511 < (CK.hist l c).calls) (vm : Value) (n : Nat) (w : World) (hm : SlU w w.heap.size vm (natsI [n])) :
  Calls Try.prog 6 #[(CK.hist l c).val f, vm] w (RetEnc (okOne l n) ((encOne l n).map (nK f)) w) := by
 have HC : Hid (∀ wz, Calls Try.prog 15 #[(CK.hist l c).val f] wz (RetC 0 wz)) := by
  intro wz
  have h := circuit_Check_ok hf (.hist l c) hy wz
  rwa [CK.code_ok hcalls] at h
 have HO : Hid (∀ wz, Calls Try.prog 16 #[(CK.hist l c).val f] wz (RetI l wz)) := fun wz => circuit_Out f (.hist l c) hy wz
 rw [val_hist] at HC HO ⊢
 have hl64 : l ≤ 64 := hy.1.2
 have hl1 : 1 ≤ l := hy.1.1
 obtain ⟨⟨A, cc, rfl, hcc, hcm, hA⟩, hok⟩ := hm
 rw [natsI_length] at hcc hA ⊢
 obtain ⟨bb, o, rfl, hB, hr⟩ := hA (by simp)
 have hn64 : n ≤ 18446744073709551615 := by have := (hok (n : Int) (by simp [natsI])).2; omega
 have D0 : Hid (∀ wz, Below w.heap.size w wz → wz.cell? ⟨bb, o, none⟩ = some (.int .u64 n)) := fun wz hb => (hr.below hb hB) 0 n rfl
 have HONE := Lib.hid (fun wz => field_One hf wz)
 have hfb0 : (1 : Int) ≤ (f : Int) := by rcases hf.or with rfl | rfl <;> omega
 have hfb1 : (f : Int) ≤ 2 := by rcases hf.or with rfl | rfl <;> omega
 have hmk := make_elem l (by omega)
 have hwl : IntKind.u64.wrap (l : Int) = (l : Int) := IntWalk.u64_in _ (by omega)
 have hb00 : Below w.heap.size w w := Below.refl _ _
 clear hA hr hok hcalls hy
 rw [show ([n] : List Nat).length = 1 from rfl]
 go_enter Try.func6, Try.ntmps6
 go_upto_region 1 with fail
 have hx := Vs.new w [.int .u8 4, .int .u8 f, .int .i64 0, .int .i64 l, .int .i64 0, .int .i64 c] #[.int .u8 4, .int .u8 f, .int .i64 0, .int .i64 l, .int .i64 0, .int .i64 c] 32 rfl
 have hbA : Below w.heap.size w (w.alloc (.cells #[.int .u8 4, .int .u8 f, .int .i64 0, .int .i64 l, .int .i64 0, .int .i64 c] 32)) := by repeat (first | exact bA | with_reducible assumption | apply bB)
 replace hb00 := bl_call hb00 (Nat.le_refl _) hbA
 clear hbA
 generalize w.alloc (.cells #[.int .u8 4, .int .u8 f, .int .i64 0, .int .i64 l, .int .i64 0, .int .i64 c] 32) = w1 at hb00 hx ⊢
 obtain ⟨⟨x0, x1, x2, x3, x4, x5⟩, ⟨x6, x7, x8, x9, x10, x11⟩, x12⟩ := hx.get6
 go_upto_region 13 with (first
  | (go_at_call 15; refine (HC.out _).mono ?_; rintro e w2 ⟨rfl, hb2⟩; replace hb00 := bl_call hb00 (Nat.le_refl _) hb2; replace hx := hx.call hb2; clear x0 x1 x2 x3 x4 x5 x6 x7 x8 x9 x10 x11 x12; clear hb2; obtain ⟨⟨x0, x1, x2, x3, x4, x5⟩, ⟨x6, x7, x8, x9, x10, x11⟩, x12⟩ := hx.get6)
  | (go_at_call 16; refine (HO.out _).mono ?_; rintro e w3 ⟨rfl, hb3⟩; replace hb00 := bl_call hb00 (Nat.le_refl _) hb3; replace hx := hx.call hb3; clear x0 x1 x2 x3 x4 x5 x6 x7 x8 x9 x10 x11 x12; clear hb3; obtain ⟨⟨x0, x1, x2, x3, x4, x5⟩, ⟨x6, x7, x8, x9, x10, x11⟩, x12⟩ := hx.get6))
 have d0 := D0.out _ hb00
 have hbb : bb < w3.heap.size := Nat.lt_of_lt_of_le hB hb00.size
 by_cases hnl : n < l
 rotate_left
 ·have hd : decide ((l : Int) ≤ (n : Int)) = true := decide_eq_true (by omega)
  have HNG : Hid (¬ okOne l n) := hnl
  refine region_B (n := 6) (m := 7) (f := 6) (by kernel_rfl) (by kernel_rfl) rfl ?_
  refine WpH.vD 0 (some 32) ?_ rfl rfl (by kernel_rfl) (fun _ _ _ h => h) rfl (fun wz hwz => ?_) ?_
  rotate_left
  ·go_simp; try (with_reducible rfl)
  simp only [Zp, Zq, Zr, Zs]
  refine WpH.vD 1 (some 33) ?_ rfl rfl (by kernel_rfl) (fun _ _ _ h => h) rfl (fun wz hwz => ?_) ?_
  rotate_left
  ·go_simp; try (with_reducible rfl)
  simp only [Zp, Zq, Zr, Zs]
  refine WpH.vD 2 (some 34) ?_ rfl rfl (by kernel_rfl) (fun _ _ _ h => h) rfl (fun wz hwz => ?_) ?_
  rotate_left
  ·(obtain ⟨hcz, hfz⟩ := bcell hwz; go_simp; try (with_reducible rfl))
  simp only [Zp, Zq, Zr, Zs]
  refine WpH.vD 3 (some 35) ?_ rfl rfl (by kernel_rfl) (fun _ _ _ h => h) rfl (fun wz hwz => ?_) ?_
  rotate_left
  ·go_simp; try (with_reducible rfl)
  simp only [Zp, Zq, Zr, Zs]
  refine WpH.vD 4 (some 36) ?_ rfl rfl (by kernel_rfl) (fun _ _ _ h => h) rfl (fun wz hwz => ?_) ?_
  rotate_left
  ·(obtain ⟨hcz, hfz⟩ := bcell hwz; go_simp; try (with_reducible rfl))
  simp only [Zp, Zq, Zr, Zs]
  refine WpH.vD 5 (some 37) ?_ rfl rfl (by kernel_rfl) (fun _ _ _ h => h) rfl (fun wz hwz => ?_) ?_
  rotate_left
  ·go_simp; try (with_reducible rfl)
  simp only [Zp, Zq, Zr, Zs]
  refine WpH.doneB (by kernel_rfl) (fun w4 hw4 => ?_)
  (try simp only [List.drop_succ_cons]); (try simp only [List.drop_zero]); (try simp only [Nat.reduceSub]); (try simp only [List.take_succ_cons]); (try simp only [List.take_zero])
  replace hb00 := bl_call hb00 (Nat.le_refl _) hw4
  replace hx := hx.call hw4
  go_wp2_with fail
  go_ret2
  exact .inr ⟨HNG.out, rfl, hb00⟩
 have hd : decide ((l : Int) ≤ (n : Int)) = false := decide_eq_false (by omega)
 have HNL : Hid (okOne l n) := hnl
 refine region_B (n := 6) (m := 7) (f := 6) (by kernel_rfl) (by kernel_rfl) rfl ?_
 refine WpH.vD 0 (some 32) ?_ rfl rfl (by kernel_rfl) (fun _ _ _ h => h) rfl (fun wz hwz => ?_) ?_
 rotate_left
 ·go_simp; try (with_reducible rfl)
 simp only [Zp, Zq, Zr, Zs]
 refine WpH.vD 1 (some 33) ?_ rfl rfl (by kernel_rfl) (fun _ _ _ h => h) rfl (fun wz hwz => ?_) ?_
 rotate_left
 ·go_simp; try (with_reducible rfl)
 simp only [Zp, Zq, Zr, Zs]
 refine WpH.vD 2 (some 34) ?_ rfl rfl (by kernel_rfl) (fun _ _ _ h => h) rfl (fun wz hwz => ?_) ?_
 rotate_left
 ·(obtain ⟨hcz, hfz⟩ := bcell hwz; go_simp; try (with_reducible rfl))
 simp only [Zp, Zq, Zr, Zs]
 refine WpH.vD 3 (some 35) ?_ rfl rfl (by kernel_rfl) (fun _ _ _ h => h) rfl (fun wz hwz => ?_) ?_
 rotate_left
 ·go_simp; try (with_reducible rfl)
 simp only [Zp, Zq, Zr, Zs]
 refine WpH.vD 4 (some 36) ?_ rfl rfl (by kernel_rfl) (fun _ _ _ h => h) rfl (fun wz hwz => ?_) ?_
 rotate_left
 ·(obtain ⟨hcz, hfz⟩ := bcell hwz; go_simp; try (with_reducible rfl))
 simp only [Zp, Zq, Zr, Zs]
 refine WpH.vD 5 (some 37) ?_ rfl rfl (by kernel_rfl) (fun _ _ _ h => h) rfl (fun wz hwz => ?_) ?_
 rotate_left
 ·go_simp; try (with_reducible rfl)
 simp only [Zp, Zq, Zr, Zs]
 refine WpH.doneB (by kernel_rfl) (fun w4 hw4 => ?_)
 (try simp only [List.drop_succ_cons]); (try simp only [List.drop_zero]); (try simp only [Nat.reduceSub]); (try simp only [List.take_succ_cons]); (try simp only [List.take_zero])
 clear x0 x1 x2 x3 x4 x5 x6 x7 x8 x9 x10 x11 x12
 replace hb00 := bl_call hb00 (Nat.le_refl _) hw4
 replace hx := hx.call hw4
 clear hw4 d0 hbb
 obtain ⟨⟨x0, x1, x2, x3, x4, x5⟩, ⟨x6, x7, x8, x9, x10, x11⟩, x12⟩ := hx.get6
 go_upto_region 16 with fail
 clear x0 x1 x2 x3 x4 x5 x6 x7 x8 x9 x10 x11 x12
 have hBk : BlkE (w4.alloc (.cells (cellsE (List.replicate l (0, 0))).toArray 55)) w4.heap.size (List.replicate l (0, 0)) := heap_alloc_new w4 _
 have hbA : Below w4.heap.size w4 (w4.alloc (.cells (cellsE (List.replicate l (0, 0))).toArray 55)) := by repeat (first | exact bA | with_reducible assumption | apply bB | (refine bC ?_ (by dsimp only; omega)) | apply bD | apply bE | (refine bF ?_ (by assumption)))
 have hgx : w.heap.size < w4.heap.size := hx.lt
 replace hb00 := bl_call hb00 (Nat.le_refl _) hbA
 replace hx := hx.call hbA
 clear hbA hmk
 generalize w4.alloc (.cells (cellsE (List.replicate l (0, 0))).toArray 55) = w5 at hBk hx hb00 ⊢
 generalize w4.heap.size = g at *
 have d0 := D0.out _ hb00
 have hbb : bb < w5.heap.size := Nat.lt_of_lt_of_le hB hb00.size
 have hgl := hBk.lt
 have hni : (n : Int) < (l : Int) := by omega
 obtain ⟨⟨x0, x1, x2, x3, x4, x5⟩, ⟨x6, x7, x8, x9, x10, x11⟩, x12⟩ := hx.get6
 refine region_B (n := 8) (m := 9) (f := 8) (by kernel_rfl) (by kernel_rfl) rfl ?_
 refine WpH.vD 0 (some 42) ?_ rfl rfl (by kernel_rfl) (fun _ _ _ h => h) rfl (fun wz hwz => ?_) ?_
 rotate_left
 ·go_simp; try (with_reducible rfl)
 simp only [Zp, Zq, Zr, Zs]
 refine WpH.vD 1 (some 43) ?_ rfl rfl (by kernel_rfl) (fun _ _ _ h => h) rfl (fun wz hwz => ?_) ?_
 rotate_left
 ·go_simp; try (with_reducible rfl)
 simp only [Zp, Zq, Zr, Zs]
 refine WpH.vD 2 (some 44) ?_ rfl rfl (by kernel_rfl) (fun _ _ _ h => h) rfl (fun wz hwz => ?_) ?_
 rotate_left
 ·go_simp; try (with_reducible rfl)
 simp only [Zp, Zq, Zr, Zs]
 refine WpH.vD 3 (some 45) ?_ rfl rfl (by kernel_rfl) (fun _ _ _ h => h) rfl (fun wz hwz => ?_) ?_
 rotate_left
 ·(obtain ⟨hcz, hfz⟩ := bcell hwz; go_simp; try (with_reducible rfl))
 simp only [Zp, Zq, Zr, Zs]
 refine WpH.vD 4 (some 46) ?_ rfl rfl (by kernel_rfl) (fun _ _ _ h => h) rfl (fun wz hwz => ?_) ?_
 rotate_left
 ·go_simp; try (with_reducible rfl)
 simp only [Zp, Zq, Zr, Zs]
 refine WpH.vD 5 (some 47) ?_ rfl rfl (by kernel_rfl) (fun _ _ _ h => h) rfl (fun wz hwz => ?_) ?_
 rotate_left
 ·(obtain ⟨hcz, hfz⟩ := bcell hwz; go_simp; try (with_reducible rfl))
 simp only [Zp, Zq, Zr, Zs]
 refine WpH.takeD 6 (some 48) rfl rfl (by kernel_rfl) (fun _ _ _ h => h) (.call rfl (fun wz hwz => HONE.out wz) (fun wz hwz => ?_)) ?_
 ·go_simp; try (with_reducible rfl)
 simp only [Zp, Zq, Zr, Zs]
 refine WpH.vD 7 (some 49) ?_ rfl rfl (by kernel_rfl) (fun _ _ _ h => h) rfl (fun wz hwz => ?_) ?_
 rotate_left
 ·go_simp; try (with_reducible rfl)
 simp only [Zp, Zq, Zr, Zs]
 refine WpH.doneB (by kernel_rfl) (fun w6 hw6 => ?_)
 (try simp only [List.drop_succ_cons]); (try simp only [List.drop_zero]); (try simp only [Nat.reduceSub]); (try simp only [List.take_succ_cons]); (try simp only [List.take_zero])
 clear x0 x1 x2 x3 x4 x5 x6 x7 x8 x9 x10 x11 x12
 clear d0 hbb hgl
 replace hBk := hBk.call hw6
 replace hb00 := bl_call hb00 (Nat.le_refl _) hw6
 replace hx := hx.call hw6
 clear hw6
 have hzn : (List.replicate l ((0, 0) : E))[n]? = some (0, 0) := by rw [List.getElem?_replicate, if_pos hnl]
 obtain ⟨z0, z1⟩ := hBk.row n _ hzn
 have fz0 := hBk.frozen (n * 2)
 have fz1 := hBk.frozen (n * 2 + 1)
 have HL : Hid ((List.replicate l ((0, 0) : E)).set n (lo (1 : Fin (Pm f)), hi (1 : Fin (Pm f))) = esK ((encOne l n).map (nK f))) := by
  show (List.replicate l ((0, 0) : E)).set n (eK (1 : Fin (Pm f))) = esK ((encOne l n).map (nK f))
  unfold encOne esK
  rw [List.map_set, List.map_replicate, List.map_set, List.map_replicate, nK_zero, nK_one, eK_zero]
 have HB2 := Lib.hid (hBk.set n (lo (1 : Fin (Pm f))) (hi (1 : Fin (Pm f))))
 clear hBk hzn
 go_wp2_with fail
 go_ret2
 have hB2 := HB2.out
 rw [HL.out] at hB2
 have hlen : ((encOne l n).map (nK f)).length = l := by rw [List.length_map, encOne_length]
 have hwg : w.heap.size ≤ g := by omega
 refine .inl ⟨HNL.out, _, rfl, ?_, bl_set (p := ⟨g, n * 2 + 1, none⟩) (bl_set (p := ⟨g, n * 2, none⟩) hb00 hwg _) hwg _⟩
 rw [hlen]
 exact own_blk hB2 (by rw [esK_length, hlen]) (by omega) (by omega)

def CK.meas : CK → Nat
 | hist _ _ => 1
 | y => y.nout
def okEnc (y : CK) (ms : List Nat) : Prop :=
 match y with
 | .count => ∀ x, x ∈ ms → x ≤ 1
 | .sum b => okNums b ms
 | .vec b _ _ => okNums b ms
 | .hist l _ => okOne l (ms.headD 0)
 | .multi _ m _ => okMulti m ms
def encL (y : CK) (ms : List Nat) : List Nat :=
 match y with
 | .count => ms
 | .sum b => encNums b ms
 | .vec b _ _ => encNums b ms
 | .hist l _ => encOne l (ms.headD 0)
 | .multi _ m _ => encMulti m ms

theorem circuit_Encode (y : CK) (hy : y.ok) (hcalls : ¬ 511 < y.calls) (vm : Value) (ms : List Nat) (w : World) (hm : SlU w w.heap.size vm (natsI ms)) (hl : ms.length = y.meas) :
  Calls Try.prog 6 #[y.val f, vm] w (RetEnc (okEnc y ms) ((encL y ms).map (nK f)) w) := by
 have HC : Hid (∀ wz, Calls Try.prog 15 #[y.val f] wz (RetC 0 wz)) := by
  intro wz
  have h := circuit_Check_ok hf y hy wz
  rwa [CK.code_ok hcalls] at h
 have HO := Lib.hid (fun wz => circuit_Out f y hy wz)
 cases y with
 | count => exact circuit_Encode_count hf hcalls vm ms w hm hl
 | sum b => exact circuit_Encode_nums2 hf b 1 0 0 0 hy.1 hy.2 (by omega) vm ms w hm hl HC HO
 | vec b n c => exact circuit_Encode_nums3 hf b n 0 c n hy.1.1 hy.1.2 hy.2.1.2 vm ms w hm hl HC HO
 | hist l c =>
  match ms, hl with
  | [n], _ => exact circuit_Encode_hist hf l c hy hcalls vm n w hm
 | multi l m c => exact circuit_Encode_multi hf l m c hy hcalls vm ms w hm hl

end

end Go.Proofs.Ytpggflcapfkgpaa
