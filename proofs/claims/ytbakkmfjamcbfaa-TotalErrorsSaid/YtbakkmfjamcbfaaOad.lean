/-
 TaN, OpenTo, OpenT: for TotalErrors.
-/
import Derived.BigQuiet
import Derived.Laws.Bits64b
import Derived.Deep.DeepCutAuto
import Derived.Test.YtbakkmfjamcbfaaKax
import Derived.Test.YtbakkmfjamcbfaaOac
namespace Go.Proofs.Ytbakkmfjamcbfaa
open Go.RowKit Fm
set_option linter.unusedVariables false
set_option maxRecDepth 100000

theorem zK_esK (f n : Nat) : esK (zK f n) = List.replicate n (0, 0) := by
 unfold esK zK
 rw [List.map_replicate, eK_zero]

set_option maxHeartbeats 16000000 in
theorem walk_TotalErrors (t : RawT) (k f b l m c p tg : Int) (vx vy : Value) (xs ys : List E) (M1 M2 : Int) (K1 K2 id : List Int) (w : World) (hk : 0 ≤ k ∧ k ≤ 255) (hf : 0 ≤ f ∧ f ≤ 255) (hb : 0 ≤ b ∧ b ≤ 255) (hl : 0 ≤ l ∧ l ≤ 255) (hm : 0 ≤ m ∧ m ≤ 255) (hc : 0 ≤ c ∧ c ≤ 255) (hp : 0 ≤ p ∧ p ≤ 255) (ht : 0 ≤ tg ∧ tg ≤ 255)
  (hx : SlE w w.heap.size vx xs) (hy : SlE w w.heap.size vy ys) (hK1 : K1.length = 16) (hK2 : K2.length = 16) (hid : id.length = 16) (hid8 : B8 id) (hM1 : -9223372036854775808 ≤ M1 ∧ M1 ≤ 9223372036854775807) (hM2 : -9223372036854775808 ≤ M2 ∧ M2 ≤ 9223372036854775807) :
  Calls Try.prog 9 #[t.val, .agg #[.int .u8 k, .int .u8 f, .int .u8 b, .int .u8 l, .int .u8 m, .int .u8 c, .int .u8 p, .int .u8 tg], .agg (totL vx M1 K1).toArray, .agg (totL vy M2 K2).toArray, .agg (cells8 id).toArray] w fun e w' => e = .returned (.bool true) ∧ Below w.heap.size w w' := by
 obtain ⟨F, y, s, hF, hy9, hs32, hTSK⟩ := law13_Task k f b l m c p tg hk hf hb hl hm hc hp ht
 obtain ⟨pq, hpq, hpq1, hpq3⟩ : ∃ q : Int, 1 + p % 3 = q ∧ 1 ≤ q ∧ q ≤ 3 := ⟨_, rfl, by omega, by omega⟩
 rw [hpq] at hTSK
 have HTSK := Lib.hid hTSK
 have HAW := Lib.hid law15_Awake
 have hok := hy9.ok
 have hcl : y.calls ≤ 511 := by have := hy9.calls; omega
 have hno := CK.nout_le hok
 have HC : ∀ wz, Calls Try.prog 43 #[.agg #[.int .u8 ((y.k : Nat) : Int), .int .u8 (F : Int), .int .i64 ((y.b : Nat) : Int), .int .i64 ((y.l : Nat) : Int), .int .i64 ((y.m : Nat) : Int), .int .i64 ((y.c : Nat) : Int), .int .i64 pq, .string s]] wz (RetC 0 wz) := fun wz => small_code (by omega) hok hF pq ⟨hpq1, hpq3⟩ s hs32 wz
 have HO : ∀ wz, Calls Try.prog 32 #[.agg #[.int .u8 ((y.k : Nat) : Int), .int .u8 (F : Int), .int .i64 ((y.b : Nat) : Int), .int .i64 ((y.l : Nat) : Int), .int .i64 ((y.m : Nat) : Int), .int .i64 ((y.c : Nat) : Int)]] wz (RetI y.nout wz) := fun wz => circuit_Out F y hok wz
 obtain ⟨cq, hCQ⟩ := task_CheckA t
 generalize y.nout = n at *
 have HBAD : Hid (cq ≠ 0 → (∀ wz, Calls Try.prog 37 #[.agg (totL vx M1 K1).toArray, t.val, .agg (cells8 id).toArray, .slice none 0 0] wz (RetT0 cq wz)) ∧ (∀ wz, Calls Try.prog 27 #[.agg (totL vx M1 K1).toArray, t.val, .agg (totL vy M2 K2).toArray] wz (RetT0 cq wz)) ∧
   (∀ wz, Calls Try.prog 38 #[t.val, .agg (totL vx M1 K1).toArray, .agg (totL vy M2 K2).toArray] wz (RetErr cq wz)) ∧ (∀ wz, Calls Try.prog 42 #[t.val, .slice none 0 0] wz (RetT0 cq wz)) ∧ (∀ wz, Calls Try.prog 31 #[t.val] wz fun e w' => e = .returned (.agg (totL (.slice none 0 0) 0 z16).toArray) ∧ Below wz.heap.size wz w')) := fun h =>
  ⟨fun wz => total_Add0 t cq h hCQ _ _ _ _ _ wz, fun wz => total_Merge0 t cq h hCQ _ _ _ _ _ _ wz, fun wz => total_Unshard0 t cq h hCQ _ _ _ _ _ _ wz, fun wz => total_Take0 t cq h hCQ _ wz, fun wz => total_New0 t cq h hCQ wz⟩
 have HSM0 : Hid (∀ wz, Calls Try.prog 30 #[.agg (totL (.slice none 0 0) 0 z16).toArray, .agg (totL (.slice none 0 0) 0 z16).toArray] wz fun e w' => e = .returned (.bool true) ∧ Below wz.heap.size wz w') := fun wz => law15_same _ _ [] 0 z16 z16_length wz (SlE.nil _ _) (SlE.nil _ _)
 have HA1 : Hid (∀ (vx vo : Value) (M : Int) (K : List Int) wz, K.length = 16 → SlK wz wz.heap.size vx (zK F n) → SlK wz wz.heap.size vo (zK F n) → Calls Try.prog 37 #[.agg (totL vx M K).toArray, .agg #[.int .u8 ((y.k : Nat) : Int), .int .u8 (F : Int), .int .i64 ((y.b : Nat) : Int), .int .i64 ((y.l : Nat) : Int), .int .i64 ((y.m : Nat) : Int), .int .i64 ((y.c : Nat) : Int), .int .i64 pq, .string s], .agg (cells8 id).toArray, vo] wz (RetTA (if M < 0 ∨ 256 ≤ M then 18 else 0) wz)) := fun vx vo M K wz h1 h2 h3 => by
  by_cases hM : M < 0 ∨ 256 ≤ M
  ·rw [if_pos hM]
   exact (total_AddFull _ _ _ _ _ _ _ s HC vx vo M hM K id wz).mono fun e w' h => RetT0.any h
  ·rw [if_neg hM]
   exact (total_Add hF _ _ _ _ _ _ s n (by omega) HC HO M (by omega) K id h1 hid hid8 vx vo _ _ wz h2 h3 (zK_length F n) (zK_length F n)).mono fun e w' h => RetTE.any (xorL_length h1 (hashF_ok 7 id).1) h
 have HA2 : Hid (∀ (vx vo : Value) (M1 M2 : Int) (K1 K2 : List Int) wz, K1.length = 16 → K2.length = 16 → SlK wz wz.heap.size vx (zK F n) → SlK wz wz.heap.size vo (zK F n) → Calls Try.prog 27 #[.agg (totL vx M1 K1).toArray, .agg #[.int .u8 ((y.k : Nat) : Int), .int .u8 (F : Int), .int .i64 ((y.b : Nat) : Int), .int .i64 ((y.l : Nat) : Int), .int .i64 ((y.m : Nat) : Int), .int .i64 ((y.c : Nat) : Int), .int .i64 pq, .string s], .agg (totL vo M2 K2).toArray] wz (RetTA (if M1 < 0 ∨ M2 < 0 ∨ 256 < M1 ∨ 256 < M1 + M2 then 18 else 0) wz)) := fun vx vo M1 M2 K1 K2 wz h1 h2 h3 h4 => by
  by_cases hM : M1 < 0 ∨ M2 < 0 ∨ 256 < M1 ∨ 256 < M1 + M2
  ·rw [if_pos hM]
   exact (total_MergeFull _ _ _ _ _ _ _ s HC vx vo M1 M2 hM K1 K2 wz).mono fun e w' h => RetT0.any h
  ·rw [if_neg hM]
   exact (total_Merge hF _ _ _ _ _ _ s n (by omega) HC M1 M2 (by omega) K1 K2 h1 h2 vx vo _ _ wz h3 h4 (zK_length F n) (zK_length F n)).mono fun e w' h => RetTE.any (xorL_length h1 h2) h
 have HA3 : Hid (∀ (vx : Value) (A : Option Addr) (q cq : Nat) (K : List Int) wz, q ≠ n → Calls Try.prog 37 #[.agg (totL vx 3 K).toArray, .agg #[.int .u8 ((y.k : Nat) : Int), .int .u8 (F : Int), .int .i64 ((y.b : Nat) : Int), .int .i64 ((y.l : Nat) : Int), .int .i64 ((y.m : Nat) : Int), .int .i64 ((y.c : Nat) : Int), .int .i64 pq, .string s], .agg (cells8 id).toArray, .slice A q cq] wz (RetT0 9 wz)) := fun vx A q cq K wz h => total_AddSize _ _ _ _ _ _ _ s HC n HO vx A q cq h 3 (by omega) K id wz
 have HA4 : Hid (∀ (vx vo : Value) (xs ys : List E) (K1 K2 : List Int) wz, SlE wz wz.heap.size vx xs → SlE wz wz.heap.size vo ys → xs.length ≠ ys.length → Calls Try.prog 27 #[.agg (totL vx 3 K1).toArray, .agg #[.int .u8 ((y.k : Nat) : Int), .int .u8 (F : Int), .int .i64 ((y.b : Nat) : Int), .int .i64 ((y.l : Nat) : Int), .int .i64 ((y.m : Nat) : Int), .int .i64 ((y.c : Nat) : Int), .int .i64 pq, .string s], .agg (totL vo 3 K2).toArray] wz (RetT0 9 wz)) := fun vx vo xs ys K1 K2 wz h1 h2 h3 => total_MergeSize _ _ _ _ _ _ _ s HC vx vo xs ys 3 3 (by omega) K1 K2 wz h1 h2 h3
 have HA5 : Hid (∀ (vx vo : Value) (xs ys : List E) (K : List Int) wz, K.length = 16 → SlE wz wz.heap.size vx xs → SlE wz wz.heap.size vo ys → xs.length ≠ ys.length → Calls Try.prog 38 #[.agg #[.int .u8 ((y.k : Nat) : Int), .int .u8 (F : Int), .int .i64 ((y.b : Nat) : Int), .int .i64 ((y.l : Nat) : Int), .int .i64 ((y.m : Nat) : Int), .int .i64 ((y.c : Nat) : Int), .int .i64 pq, .string s], .agg (totL vx 3 K).toArray, .agg (totL vo 3 K).toArray] wz (RetErr 9 wz)) := fun vx vo xs ys K wz h1 h2 h3 h4 => total_UnshardSize _ _ _ _ _ _ _ s HC vx vo xs ys 3 K h1 wz h2 h3 h4
 have HOO := Lib.hid HO
 have HK1 := Lib.hid hK1
 have HK2 := Lib.hid hK2
 have HID := Lib.hid hid
 have HNO := Lib.hid hno
 have HXE := Lib.hid hx
 have HYE := Lib.hid hy
 have hmk := make_elem n (by omega)
 have hmk1 := make_elem (n + 1) (by omega)
 obtain ⟨⟨tk, tf, tb, tl, tm, tc⟩, tp, ts⟩ := t
 have HCQ := Lib.hid hCQ
 unfold RawT.val at HBAD HCQ ⊢
 dsimp only at HBAD HCQ ⊢
 obtain ⟨⟨A1, c1, rfl, _⟩, _⟩ := hx
 obtain ⟨⟨A2, c2, rfl, _⟩, _⟩ := hy
 clear HC HO hCQ hTSK hok hcl hno hy9 hF hs32 hpq hpq1 hpq3 hp ht hk hf hb hl hm hc hid hid8 hK1 hK2
 generalize ((y.k : Nat) : Int) = yk at *
 generalize ((y.b : Nat) : Int) = yb at *
 generalize ((y.l : Nat) : Int) = yl at *
 generalize ((y.m : Nat) : Int) = ym at *
 generalize ((y.c : Nat) : Int) = yc at *
 by_cases q1 : 40 < xs.length
 ·skip
  go_enter Try.func9, Try.ntmps9
  go_upto_region 1 with fail
  have hT := ((((Vs.new w [.int .u8 tk, .int .u8 tf, .int .i64 tb, .int .i64 tl, .int .i64 tm, .int .i64 tc, .int .i64 tp, .string ts] #[.int .u8 tk, .int .u8 tf, .int .i64 tb, .int .i64 tl, .int .i64 tm, .int .i64 tc, .int .i64 tp, .string ts] 62 rfl).alloc (.cells #[.int .u8 k, .int .u8 f, .int .u8 b, .int .u8 l, .int .u8 m, .int .u8 c, .int .u8 p, .int .u8 tg] 66)).alloc (.cells (totL (.slice A1 xs.length c1) M1 K1).toArray 76)).alloc (.cells (totL (.slice A2 ys.length c2) M2 K2).toArray 76)).alloc (.cells (cells8 id).toArray 34)
  have hs := (((Vs.new (w.alloc (.cells #[.int .u8 tk, .int .u8 tf, .int .i64 tb, .int .i64 tl, .int .i64 tm, .int .i64 tc, .int .i64 tp, .string ts] 62)) [.int .u8 k, .int .u8 f, .int .u8 b, .int .u8 l, .int .u8 m, .int .u8 c, .int .u8 p, .int .u8 tg] #[.int .u8 k, .int .u8 f, .int .u8 b, .int .u8 l, .int .u8 m, .int .u8 c, .int .u8 p, .int .u8 tg] 66 rfl).alloc (.cells (totL (.slice A1 xs.length c1) M1 K1).toArray 76)).alloc (.cells (totL (.slice A2 ys.length c2) M2 K2).toArray 76)).alloc (.cells (cells8 id).toArray 34)
  have hX := ((Vs.new ((w.alloc (.cells #[.int .u8 tk, .int .u8 tf, .int .i64 tb, .int .i64 tl, .int .i64 tm, .int .i64 tc, .int .i64 tp, .string ts] 62)).alloc (.cells #[.int .u8 k, .int .u8 f, .int .u8 b, .int .u8 l, .int .u8 m, .int .u8 c, .int .u8 p, .int .u8 tg] 66)) (totL (.slice A1 xs.length c1) M1 K1) ((totL (.slice A1 xs.length c1) M1 K1).toArray) 76 rfl).alloc (.cells (totL (.slice A2 ys.length c2) M2 K2).toArray 76)).alloc (.cells (cells8 id).toArray 34)
  have hY := (Vs.new (((w.alloc (.cells #[.int .u8 tk, .int .u8 tf, .int .i64 tb, .int .i64 tl, .int .i64 tm, .int .i64 tc, .int .i64 tp, .string ts] 62)).alloc (.cells #[.int .u8 k, .int .u8 f, .int .u8 b, .int .u8 l, .int .u8 m, .int .u8 c, .int .u8 p, .int .u8 tg] 66)).alloc (.cells (totL (.slice A1 xs.length c1) M1 K1).toArray 76)) (totL (.slice A2 ys.length c2) M2 K2) ((totL (.slice A2 ys.length c2) M2 K2).toArray) 76 rfl).alloc (.cells (cells8 id).toArray 34)
  have hI := Vs.new ((((w.alloc (.cells #[.int .u8 tk, .int .u8 tf, .int .i64 tb, .int .i64 tl, .int .i64 tm, .int .i64 tc, .int .i64 tp, .string ts] 62)).alloc (.cells #[.int .u8 k, .int .u8 f, .int .u8 b, .int .u8 l, .int .u8 m, .int .u8 c, .int .u8 p, .int .u8 tg] 66)).alloc (.cells (totL (.slice A1 xs.length c1) M1 K1).toArray 76)).alloc (.cells (totL (.slice A2 ys.length c2) M2 K2).toArray 76)) (cells8 id) ((cells8 id).toArray) 34 rfl
  simp only [World.size_alloc] at hs hX hY hI
  have hb00 : Below w.heap.size w (((((w.alloc (.cells #[.int .u8 tk, .int .u8 tf, .int .i64 tb, .int .i64 tl, .int .i64 tm, .int .i64 tc, .int .i64 tp, .string ts] 62)).alloc (.cells #[.int .u8 k, .int .u8 f, .int .u8 b, .int .u8 l, .int .u8 m, .int .u8 c, .int .u8 p, .int .u8 tg] 66)).alloc (.cells (totL (.slice A1 xs.length c1) M1 K1).toArray 76)).alloc (.cells (totL (.slice A2 ys.length c2) M2 K2).toArray 76)).alloc (.cells (cells8 id).toArray 34)) := by repeat (first | exact bA | with_reducible assumption | apply bB)
  have hszn : w.heap.size + 5 ≤ (((((w.alloc (.cells #[.int .u8 tk, .int .u8 tf, .int .i64 tb, .int .i64 tl, .int .i64 tm, .int .i64 tc, .int .i64 tp, .string ts] 62)).alloc (.cells #[.int .u8 k, .int .u8 f, .int .u8 b, .int .u8 l, .int .u8 m, .int .u8 c, .int .u8 p, .int .u8 tg] 66)).alloc (.cells (totL (.slice A1 xs.length c1) M1 K1).toArray 76)).alloc (.cells (totL (.slice A2 ys.length c2) M2 K2).toArray 76)).alloc (.cells (cells8 id).toArray 34)).heap.size := by simp only [World.size_alloc]; omega
  generalize (((((w.alloc (.cells #[.int .u8 tk, .int .u8 tf, .int .i64 tb, .int .i64 tl, .int .i64 tm, .int .i64 tc, .int .i64 tp, .string ts] 62)).alloc (.cells #[.int .u8 k, .int .u8 f, .int .u8 b, .int .u8 l, .int .u8 m, .int .u8 c, .int .u8 p, .int .u8 tg] 66)).alloc (.cells (totL (.slice A1 xs.length c1) M1 K1).toArray 76)).alloc (.cells (totL (.slice A2 ys.length c2) M2 K2).toArray 76)).alloc (.cells (cells8 id).toArray 34)) = w1 at hT hs hX hY hI hb00 hszn ⊢
  go_upto_region 3 with (first
   | (go_at_call 24; refine (HAW.out _).mono ?_; rintro e w2 ⟨rfl, hb2⟩; replace hb00 := bl_call hb00 (Nat.le_refl _) hb2; replace hT := hT.call hb2; replace hs := hs.call hb2; replace hX := hX.call hb2; replace hY := hY.call hb2; replace hI := hI.call hb2))
  obtain ⟨x0, x1, x2, x3, x4⟩ := hX.tot
  obtain ⟨y0, y1, y2, y3, y4⟩ := hY.tot
  go_wp2_with fail
  go_ret
  exact ⟨rfl, hb00⟩
 by_cases q2 : 40 < ys.length
 ·skip
  go_enter Try.func9, Try.ntmps9
  go_upto_region 1 with fail
  have hT := ((((Vs.new w [.int .u8 tk, .int .u8 tf, .int .i64 tb, .int .i64 tl, .int .i64 tm, .int .i64 tc, .int .i64 tp, .string ts] #[.int .u8 tk, .int .u8 tf, .int .i64 tb, .int .i64 tl, .int .i64 tm, .int .i64 tc, .int .i64 tp, .string ts] 62 rfl).alloc (.cells #[.int .u8 k, .int .u8 f, .int .u8 b, .int .u8 l, .int .u8 m, .int .u8 c, .int .u8 p, .int .u8 tg] 66)).alloc (.cells (totL (.slice A1 xs.length c1) M1 K1).toArray 76)).alloc (.cells (totL (.slice A2 ys.length c2) M2 K2).toArray 76)).alloc (.cells (cells8 id).toArray 34)
  have hs := (((Vs.new (w.alloc (.cells #[.int .u8 tk, .int .u8 tf, .int .i64 tb, .int .i64 tl, .int .i64 tm, .int .i64 tc, .int .i64 tp, .string ts] 62)) [.int .u8 k, .int .u8 f, .int .u8 b, .int .u8 l, .int .u8 m, .int .u8 c, .int .u8 p, .int .u8 tg] #[.int .u8 k, .int .u8 f, .int .u8 b, .int .u8 l, .int .u8 m, .int .u8 c, .int .u8 p, .int .u8 tg] 66 rfl).alloc (.cells (totL (.slice A1 xs.length c1) M1 K1).toArray 76)).alloc (.cells (totL (.slice A2 ys.length c2) M2 K2).toArray 76)).alloc (.cells (cells8 id).toArray 34)
  have hX := ((Vs.new ((w.alloc (.cells #[.int .u8 tk, .int .u8 tf, .int .i64 tb, .int .i64 tl, .int .i64 tm, .int .i64 tc, .int .i64 tp, .string ts] 62)).alloc (.cells #[.int .u8 k, .int .u8 f, .int .u8 b, .int .u8 l, .int .u8 m, .int .u8 c, .int .u8 p, .int .u8 tg] 66)) (totL (.slice A1 xs.length c1) M1 K1) ((totL (.slice A1 xs.length c1) M1 K1).toArray) 76 rfl).alloc (.cells (totL (.slice A2 ys.length c2) M2 K2).toArray 76)).alloc (.cells (cells8 id).toArray 34)
  have hY := (Vs.new (((w.alloc (.cells #[.int .u8 tk, .int .u8 tf, .int .i64 tb, .int .i64 tl, .int .i64 tm, .int .i64 tc, .int .i64 tp, .string ts] 62)).alloc (.cells #[.int .u8 k, .int .u8 f, .int .u8 b, .int .u8 l, .int .u8 m, .int .u8 c, .int .u8 p, .int .u8 tg] 66)).alloc (.cells (totL (.slice A1 xs.length c1) M1 K1).toArray 76)) (totL (.slice A2 ys.length c2) M2 K2) ((totL (.slice A2 ys.length c2) M2 K2).toArray) 76 rfl).alloc (.cells (cells8 id).toArray 34)
  have hI := Vs.new ((((w.alloc (.cells #[.int .u8 tk, .int .u8 tf, .int .i64 tb, .int .i64 tl, .int .i64 tm, .int .i64 tc, .int .i64 tp, .string ts] 62)).alloc (.cells #[.int .u8 k, .int .u8 f, .int .u8 b, .int .u8 l, .int .u8 m, .int .u8 c, .int .u8 p, .int .u8 tg] 66)).alloc (.cells (totL (.slice A1 xs.length c1) M1 K1).toArray 76)).alloc (.cells (totL (.slice A2 ys.length c2) M2 K2).toArray 76)) (cells8 id) ((cells8 id).toArray) 34 rfl
  simp only [World.size_alloc] at hs hX hY hI
  have hb00 : Below w.heap.size w (((((w.alloc (.cells #[.int .u8 tk, .int .u8 tf, .int .i64 tb, .int .i64 tl, .int .i64 tm, .int .i64 tc, .int .i64 tp, .string ts] 62)).alloc (.cells #[.int .u8 k, .int .u8 f, .int .u8 b, .int .u8 l, .int .u8 m, .int .u8 c, .int .u8 p, .int .u8 tg] 66)).alloc (.cells (totL (.slice A1 xs.length c1) M1 K1).toArray 76)).alloc (.cells (totL (.slice A2 ys.length c2) M2 K2).toArray 76)).alloc (.cells (cells8 id).toArray 34)) := by repeat (first | exact bA | with_reducible assumption | apply bB)
  have hszn : w.heap.size + 5 ≤ (((((w.alloc (.cells #[.int .u8 tk, .int .u8 tf, .int .i64 tb, .int .i64 tl, .int .i64 tm, .int .i64 tc, .int .i64 tp, .string ts] 62)).alloc (.cells #[.int .u8 k, .int .u8 f, .int .u8 b, .int .u8 l, .int .u8 m, .int .u8 c, .int .u8 p, .int .u8 tg] 66)).alloc (.cells (totL (.slice A1 xs.length c1) M1 K1).toArray 76)).alloc (.cells (totL (.slice A2 ys.length c2) M2 K2).toArray 76)).alloc (.cells (cells8 id).toArray 34)).heap.size := by simp only [World.size_alloc]; omega
  generalize (((((w.alloc (.cells #[.int .u8 tk, .int .u8 tf, .int .i64 tb, .int .i64 tl, .int .i64 tm, .int .i64 tc, .int .i64 tp, .string ts] 62)).alloc (.cells #[.int .u8 k, .int .u8 f, .int .u8 b, .int .u8 l, .int .u8 m, .int .u8 c, .int .u8 p, .int .u8 tg] 66)).alloc (.cells (totL (.slice A1 xs.length c1) M1 K1).toArray 76)).alloc (.cells (totL (.slice A2 ys.length c2) M2 K2).toArray 76)).alloc (.cells (cells8 id).toArray 34)) = w1 at hT hs hX hY hI hb00 hszn ⊢
  go_upto_region 3 with (first
   | (go_at_call 24; refine (HAW.out _).mono ?_; rintro e w2 ⟨rfl, hb2⟩; replace hb00 := bl_call hb00 (Nat.le_refl _) hb2; replace hT := hT.call hb2; replace hs := hs.call hb2; replace hX := hX.call hb2; replace hY := hY.call hb2; replace hI := hI.call hb2))
  obtain ⟨x0, x1, x2, x3, x4⟩ := hX.tot
  obtain ⟨y0, y1, y2, y3, y4⟩ := hY.tot
  go_wp2_with fail
  go_ret
  exact ⟨rfl, hb00⟩
 go_enter Try.func9, Try.ntmps9
 go_upto_region 1 with fail
 have hT := ((((Vs.new w [.int .u8 tk, .int .u8 tf, .int .i64 tb, .int .i64 tl, .int .i64 tm, .int .i64 tc, .int .i64 tp, .string ts] #[.int .u8 tk, .int .u8 tf, .int .i64 tb, .int .i64 tl, .int .i64 tm, .int .i64 tc, .int .i64 tp, .string ts] 62 rfl).alloc (.cells #[.int .u8 k, .int .u8 f, .int .u8 b, .int .u8 l, .int .u8 m, .int .u8 c, .int .u8 p, .int .u8 tg] 66)).alloc (.cells (totL (.slice A1 xs.length c1) M1 K1).toArray 76)).alloc (.cells (totL (.slice A2 ys.length c2) M2 K2).toArray 76)).alloc (.cells (cells8 id).toArray 34)
 have hs := (((Vs.new (w.alloc (.cells #[.int .u8 tk, .int .u8 tf, .int .i64 tb, .int .i64 tl, .int .i64 tm, .int .i64 tc, .int .i64 tp, .string ts] 62)) [.int .u8 k, .int .u8 f, .int .u8 b, .int .u8 l, .int .u8 m, .int .u8 c, .int .u8 p, .int .u8 tg] #[.int .u8 k, .int .u8 f, .int .u8 b, .int .u8 l, .int .u8 m, .int .u8 c, .int .u8 p, .int .u8 tg] 66 rfl).alloc (.cells (totL (.slice A1 xs.length c1) M1 K1).toArray 76)).alloc (.cells (totL (.slice A2 ys.length c2) M2 K2).toArray 76)).alloc (.cells (cells8 id).toArray 34)
 have hX := ((Vs.new ((w.alloc (.cells #[.int .u8 tk, .int .u8 tf, .int .i64 tb, .int .i64 tl, .int .i64 tm, .int .i64 tc, .int .i64 tp, .string ts] 62)).alloc (.cells #[.int .u8 k, .int .u8 f, .int .u8 b, .int .u8 l, .int .u8 m, .int .u8 c, .int .u8 p, .int .u8 tg] 66)) (totL (.slice A1 xs.length c1) M1 K1) ((totL (.slice A1 xs.length c1) M1 K1).toArray) 76 rfl).alloc (.cells (totL (.slice A2 ys.length c2) M2 K2).toArray 76)).alloc (.cells (cells8 id).toArray 34)
 have hY := (Vs.new (((w.alloc (.cells #[.int .u8 tk, .int .u8 tf, .int .i64 tb, .int .i64 tl, .int .i64 tm, .int .i64 tc, .int .i64 tp, .string ts] 62)).alloc (.cells #[.int .u8 k, .int .u8 f, .int .u8 b, .int .u8 l, .int .u8 m, .int .u8 c, .int .u8 p, .int .u8 tg] 66)).alloc (.cells (totL (.slice A1 xs.length c1) M1 K1).toArray 76)) (totL (.slice A2 ys.length c2) M2 K2) ((totL (.slice A2 ys.length c2) M2 K2).toArray) 76 rfl).alloc (.cells (cells8 id).toArray 34)
 have hI := Vs.new ((((w.alloc (.cells #[.int .u8 tk, .int .u8 tf, .int .i64 tb, .int .i64 tl, .int .i64 tm, .int .i64 tc, .int .i64 tp, .string ts] 62)).alloc (.cells #[.int .u8 k, .int .u8 f, .int .u8 b, .int .u8 l, .int .u8 m, .int .u8 c, .int .u8 p, .int .u8 tg] 66)).alloc (.cells (totL (.slice A1 xs.length c1) M1 K1).toArray 76)).alloc (.cells (totL (.slice A2 ys.length c2) M2 K2).toArray 76)) (cells8 id) ((cells8 id).toArray) 34 rfl
 simp only [World.size_alloc] at hs hX hY hI
 have hb00 : Below w.heap.size w (((((w.alloc (.cells #[.int .u8 tk, .int .u8 tf, .int .i64 tb, .int .i64 tl, .int .i64 tm, .int .i64 tc, .int .i64 tp, .string ts] 62)).alloc (.cells #[.int .u8 k, .int .u8 f, .int .u8 b, .int .u8 l, .int .u8 m, .int .u8 c, .int .u8 p, .int .u8 tg] 66)).alloc (.cells (totL (.slice A1 xs.length c1) M1 K1).toArray 76)).alloc (.cells (totL (.slice A2 ys.length c2) M2 K2).toArray 76)).alloc (.cells (cells8 id).toArray 34)) := by repeat (first | exact bA | with_reducible assumption | apply bB)
 have hszn : w.heap.size + 5 ≤ (((((w.alloc (.cells #[.int .u8 tk, .int .u8 tf, .int .i64 tb, .int .i64 tl, .int .i64 tm, .int .i64 tc, .int .i64 tp, .string ts] 62)).alloc (.cells #[.int .u8 k, .int .u8 f, .int .u8 b, .int .u8 l, .int .u8 m, .int .u8 c, .int .u8 p, .int .u8 tg] 66)).alloc (.cells (totL (.slice A1 xs.length c1) M1 K1).toArray 76)).alloc (.cells (totL (.slice A2 ys.length c2) M2 K2).toArray 76)).alloc (.cells (cells8 id).toArray 34)).heap.size := by simp only [World.size_alloc]; omega
 generalize (((((w.alloc (.cells #[.int .u8 tk, .int .u8 tf, .int .i64 tb, .int .i64 tl, .int .i64 tm, .int .i64 tc, .int .i64 tp, .string ts] 62)).alloc (.cells #[.int .u8 k, .int .u8 f, .int .u8 b, .int .u8 l, .int .u8 m, .int .u8 c, .int .u8 p, .int .u8 tg] 66)).alloc (.cells (totL (.slice A1 xs.length c1) M1 K1).toArray 76)).alloc (.cells (totL (.slice A2 ys.length c2) M2 K2).toArray 76)).alloc (.cells (cells8 id).toArray 34)) = w1 at hT hs hX hY hI hb00 hszn ⊢
 go_upto_region 3 with (first
  | (go_at_call 24; refine (HAW.out _).mono ?_; rintro e w2 ⟨rfl, hb2⟩; replace hb00 := bl_call hb00 (Nat.le_refl _) hb2; replace hT := hT.call hb2; replace hs := hs.call hb2; replace hX := hX.call hb2; replace hY := hY.call hb2; replace hI := hI.call hb2))
 obtain ⟨x0, x1, x2, x3, x4⟩ := hX.tot
 obtain ⟨y0, y1, y2, y3, y4⟩ := hY.tot
 go_upto_region 5 with fail
 clear q1 q2 x0 x1 x2 x3 x4 y0 y1 y2 y3 y4 HAW
 obtain ⟨⟨T0, T1, T2, T3, T4, T5, T6, T7⟩, ⟨T8, T9, T10, T11, T12, T13, T14, T15⟩, T16⟩ := hT.get8
 go_upto_if 49 with (first
  | (go_at_call 43; refine (HCQ.out _).mono ?_; rintro e w3 ⟨rfl, hb3⟩; replace hb00 := bl_call hb00 (Nat.le_refl _) hb3; replace hT := hT.call hb3; replace hs := hs.call hb3; replace hX := hX.call hb3; replace hY := hY.call hb3; replace hI := hI.call hb3))
 clear T0 T1 T2 T3 T4 T5 T6 T7 T8 T9 T10 T11 T12 T13 T14 T15 T16
 go_cut [] from 12 to 100 (fun wx => Vs wx (w.heap.size + 1) [.int .u8 k, .int .u8 f, .int .u8 b, .int .u8 l, .int .u8 m, .int .u8 c, .int .u8 p, .int .u8 tg] ∧ Vs wx (w.heap.size + 1 + 1) (totL (.slice A1 xs.length c1) M1 K1) ∧ Vs wx (w.heap.size + 1 + 1 + 1) (totL (.slice A2 ys.length c2) M2 K2) ∧ Vs wx (w.heap.size + 1 + 1 + 1 + 1) (cells8 id) ∧ Below w.heap.size w wx)
 case first =>
  by_cases hq : cq = 0
  ·have hq1 : (cq != 0) = false := by simpa using hq
   clear hq
   go_wp2_with fail
   go_meet
   case rel => exact ⟨hs, hX, hY, hI, hb00⟩
  ·have hq1 : (cq != 0) = true := by simpa using hq
   have HQ := Lib.hid (HBAD.out hq)
   clear hq
   go_upto_region 7 with fail
   obtain ⟨⟨T0, T1, T2, T3, T4, T5, T6, T7⟩, ⟨T8, T9, T10, T11, T12, T13, T14, T15⟩, T16⟩ := hT.get8
   refine wp_region_lit ?_
   refine wpList_valD (some 51) rfl rfl (exec_load rfl (by kernel_rfl) (hX.loadT HK1.out)) ?_
   simp only [Zp, Zq, Zr, Zs]
   refine wpList_valD (some 52) rfl rfl (by (go_simp; first | with_reducible rfl | exact ⟨rfl, rfl⟩ | (trace_state; fail))) ?_
   simp only [Zp, Zq, Zr, Zs]
   refine wpList_valD (some 53) rfl rfl (exec_load rfl (by kernel_rfl) (hI.loadId HID.out)) ?_
   simp only [Zp, Zq, Zr, Zs]
   refine wpList_callD (some 54) rfl rfl 37 _ ?_ (HQ.out.1 _) ?_
   ·go_simp; try (with_reducible rfl)
   rintro e w4 ⟨rfl, hb4⟩
   refine ⟨_, rfl, ?_⟩
   simp only [Zp, Zq, Zr, Zs]
   clear T0 T1 T2 T3 T4 T5 T6 T7 T8 T9 T10 T11 T12 T13 T14 T15 T16
   replace hb00 := bl_call hb00 (Nat.le_refl _) hb4
   replace hT := hT.call hb4
   replace hs := hs.call hb4
   replace hX := hX.call hb4
   replace hY := hY.call hb4
   replace hI := hI.call hb4
   clear hb4
   refine wpList_valD (some 50) rfl rfl (by (go_simp; first | with_reducible rfl | exact ⟨rfl, rfl⟩ | (trace_state; fail))) ?_
   simp only [Zp, Zq, Zr, Zs]
   refine wpList_valD (some 55) rfl rfl (by (go_simp; first | with_reducible rfl | exact ⟨rfl, rfl⟩ | (trace_state; fail))) ?_
   simp only [Zp, Zq, Zr, Zs]
   refine wpList_valD (some 56) rfl rfl (by (go_simp; first | with_reducible rfl | exact ⟨rfl, rfl⟩ | (trace_state; fail))) ?_
   simp only [Zp, Zq, Zr, Zs]
   refine wpList_valD (some 12) rfl rfl (by (skip; go_simp; first | with_reducible rfl | exact ⟨rfl, rfl⟩ | (trace_state; fail))) ?_
   simp only [Zp, Zq, Zr, Zs]
   have hN := Vs.new w4 (totL (.slice none 0 0) 0 z16) #[.slice none 0 0, .int .i64 0, .int .u8 0, .int .u8 0, .int .u8 0, .int .u8 0, .int .u8 0, .int .u8 0, .int .u8 0, .int .u8 0, .int .u8 0, .int .u8 0, .int .u8 0, .int .u8 0, .int .u8 0, .int .u8 0, .int .u8 0, .int .u8 0] 76 rfl
   have hbA := (Below.refl w4.heap.size w4).alloc (Nat.le_refl _) (.cells #[.slice none 0 0, .int .i64 0, .int .u8 0, .int .u8 0, .int .u8 0, .int .u8 0, .int .u8 0, .int .u8 0, .int .u8 0, .int .u8 0, .int .u8 0, .int .u8 0, .int .u8 0, .int .u8 0, .int .u8 0, .int .u8 0, .int .u8 0, .int .u8 0] 76)
   have hst := hN.storeT (k := z16) (v := .slice none 0 0) (m := 0) z16_length z16_length rfl
   refine wpList_skipD rfl rfl (exec_store rfl (by kernel_rfl) (by kernel_rfl) hst) ?_
   refine wpList_valD (some 13) rfl rfl (by (go_simp; first | with_reducible rfl | exact ⟨rfl, rfl⟩ | (trace_state; fail))) ?_
   simp only [Zp, Zq, Zr, Zs]
   replace hN := hN.setT (k := z16) (v := .slice none 0 0) (m := 0) z16_length z16_length
   have hbC := bl_setCells hbA (Nat.le_refl _) 0 (totL (.slice none 0 0) 0 z16)
   replace hb00 := bl_call hb00 (Nat.le_refl _) hbC
   replace hT := hT.call hbC
   replace hs := hs.call hbC
   replace hX := hX.call hbC
   replace hY := hY.call hbC
   replace hI := hI.call hbC
   clear hst hbA hbC hN
   generalize (w4.alloc (.cells #[.slice none 0 0, .int .i64 0, .int .u8 0, .int .u8 0, .int .u8 0, .int .u8 0, .int .u8 0, .int .u8 0, .int .u8 0, .int .u8 0, .int .u8 0, .int .u8 0, .int .u8 0, .int .u8 0, .int .u8 0, .int .u8 0, .int .u8 0, .int .u8 0] 76)).setCells w4.heap.size 0 (totL (.slice none 0 0) 0 z16) = w5 at hT hs hX hY hI hb00 ⊢
   go_upto_region 8 with fail
   obtain ⟨⟨T0, T1, T2, T3, T4, T5, T6, T7⟩, ⟨T8, T9, T10, T11, T12, T13, T14, T15⟩, T16⟩ := hT.get8
   refine wp_region_lit ?_
   refine wpList_valD (some 58) rfl rfl (exec_load rfl (by kernel_rfl) (hX.loadT HK1.out)) ?_
   simp only [Zp, Zq, Zr, Zs]
   refine wpList_valD (some 59) rfl rfl (by (go_simp; first | with_reducible rfl | exact ⟨rfl, rfl⟩ | (trace_state; fail))) ?_
   simp only [Zp, Zq, Zr, Zs]
   refine wpList_valD (some 60) rfl rfl (exec_load rfl (by kernel_rfl) (hY.loadT HK2.out)) ?_
   simp only [Zp, Zq, Zr, Zs]
   refine wpList_callD (some 61) rfl rfl 27 _ ?_ (HQ.out.2.1 _) ?_
   ·go_simp; try (with_reducible rfl)
   rintro e w6 ⟨rfl, hb6⟩
   refine ⟨_, rfl, ?_⟩
   simp only [Zp, Zq, Zr, Zs]
   clear T0 T1 T2 T3 T4 T5 T6 T7 T8 T9 T10 T11 T12 T13 T14 T15 T16
   replace hb00 := bl_call hb00 (Nat.le_refl _) hb6
   replace hT := hT.call hb6
   replace hs := hs.call hb6
   replace hX := hX.call hb6
   replace hY := hY.call hb6
   replace hI := hI.call hb6
   clear hb6
   refine wpList_valD (some 57) rfl rfl (by (go_simp; first | with_reducible rfl | exact ⟨rfl, rfl⟩ | (trace_state; fail))) ?_
   simp only [Zp, Zq, Zr, Zs]
   refine wpList_valD (some 62) rfl rfl (by (go_simp; first | with_reducible rfl | exact ⟨rfl, rfl⟩ | (trace_state; fail))) ?_
   simp only [Zp, Zq, Zr, Zs]
   refine wpList_valD (some 63) rfl rfl (by (go_simp; first | with_reducible rfl | exact ⟨rfl, rfl⟩ | (trace_state; fail))) ?_
   simp only [Zp, Zq, Zr, Zs]
   refine wpList_valD (some 14) rfl rfl (by (skip; go_simp; first | with_reducible rfl | exact ⟨rfl, rfl⟩ | (trace_state; fail))) ?_
   simp only [Zp, Zq, Zr, Zs]
   have hN := Vs.new w6 (totL (.slice none 0 0) 0 z16) #[.slice none 0 0, .int .i64 0, .int .u8 0, .int .u8 0, .int .u8 0, .int .u8 0, .int .u8 0, .int .u8 0, .int .u8 0, .int .u8 0, .int .u8 0, .int .u8 0, .int .u8 0, .int .u8 0, .int .u8 0, .int .u8 0, .int .u8 0, .int .u8 0] 76 rfl
   have hbA := (Below.refl w6.heap.size w6).alloc (Nat.le_refl _) (.cells #[.slice none 0 0, .int .i64 0, .int .u8 0, .int .u8 0, .int .u8 0, .int .u8 0, .int .u8 0, .int .u8 0, .int .u8 0, .int .u8 0, .int .u8 0, .int .u8 0, .int .u8 0, .int .u8 0, .int .u8 0, .int .u8 0, .int .u8 0, .int .u8 0] 76)
   have hst := hN.storeT (k := z16) (v := .slice none 0 0) (m := 0) z16_length z16_length rfl
   refine wpList_skipD rfl rfl (exec_store rfl (by kernel_rfl) (by kernel_rfl) hst) ?_
   refine wpList_valD (some 15) rfl rfl (by (go_simp; first | with_reducible rfl | exact ⟨rfl, rfl⟩ | (trace_state; fail))) ?_
   simp only [Zp, Zq, Zr, Zs]
   replace hN := hN.setT (k := z16) (v := .slice none 0 0) (m := 0) z16_length z16_length
   have hbC := bl_setCells hbA (Nat.le_refl _) 0 (totL (.slice none 0 0) 0 z16)
   replace hb00 := bl_call hb00 (Nat.le_refl _) hbC
   replace hT := hT.call hbC
   replace hs := hs.call hbC
   replace hX := hX.call hbC
   replace hY := hY.call hbC
   replace hI := hI.call hbC
   clear hst hbA hbC hN
   generalize (w6.alloc (.cells #[.slice none 0 0, .int .i64 0, .int .u8 0, .int .u8 0, .int .u8 0, .int .u8 0, .int .u8 0, .int .u8 0, .int .u8 0, .int .u8 0, .int .u8 0, .int .u8 0, .int .u8 0, .int .u8 0, .int .u8 0, .int .u8 0, .int .u8 0, .int .u8 0] 76)).setCells w6.heap.size 0 (totL (.slice none 0 0) 0 z16) = w7 at hT hs hX hY hI hb00 ⊢
   go_upto_region 9 with fail
   obtain ⟨⟨T0, T1, T2, T3, T4, T5, T6, T7⟩, ⟨T8, T9, T10, T11, T12, T13, T14, T15⟩, T16⟩ := hT.get8
   refine wp_region_lit ?_
   refine wpList_valD (some 65) rfl rfl (by (go_simp; first | with_reducible rfl | exact ⟨rfl, rfl⟩ | (trace_state; fail))) ?_
   simp only [Zp, Zq, Zr, Zs]
   refine wpList_valD (some 66) rfl rfl (exec_load rfl (by kernel_rfl) (hX.loadT HK1.out)) ?_
   simp only [Zp, Zq, Zr, Zs]
   refine wpList_valD (some 67) rfl rfl (exec_load rfl (by kernel_rfl) (hY.loadT HK2.out)) ?_
   simp only [Zp, Zq, Zr, Zs]
   refine wpList_callD (some 68) rfl rfl 38 _ ?_ (HQ.out.2.2.1 _) ?_
   ·go_simp; try (with_reducible rfl)
   rintro e w8 ⟨rfl, hb8⟩
   refine ⟨_, rfl, ?_⟩
   simp only [Zp, Zq, Zr, Zs]
   clear T0 T1 T2 T3 T4 T5 T6 T7 T8 T9 T10 T11 T12 T13 T14 T15 T16
   replace hb00 := bl_call hb00 (Nat.le_refl _) hb8
   replace hT := hT.call hb8
   replace hs := hs.call hb8
   replace hX := hX.call hb8
   replace hY := hY.call hb8
   replace hI := hI.call hb8
   clear hb8
   refine wpList_valD (some 64) rfl rfl (by (go_simp; first | with_reducible rfl | exact ⟨rfl, rfl⟩ | (trace_state; fail))) ?_
   simp only [Zp, Zq, Zr, Zs]
   refine wpList_valD (some 69) rfl rfl (by (go_simp; first | with_reducible rfl | exact ⟨rfl, rfl⟩ | (trace_state; fail))) ?_
   simp only [Zp, Zq, Zr, Zs]
   refine wpList_valD (some 70) rfl rfl (by (go_simp; first | with_reducible rfl | exact ⟨rfl, rfl⟩ | (trace_state; fail))) ?_
   simp only [Zp, Zq, Zr, Zs]
   refine wpList_valD (some 16) rfl rfl (by (go_simp; first | with_reducible rfl | exact ⟨rfl, rfl⟩ | (trace_state; fail))) ?_
   simp only [Zp, Zq, Zr, Zs]
   refine wpList_valD (some 17) rfl rfl (by (go_simp; first | with_reducible rfl | exact ⟨rfl, rfl⟩ | (trace_state; fail))) ?_
   simp only [Zp, Zq, Zr, Zs]
   go_upto_region 10 with fail
   obtain ⟨⟨T0, T1, T2, T3, T4, T5, T6, T7⟩, ⟨T8, T9, T10, T11, T12, T13, T14, T15⟩, T16⟩ := hT.get8
   refine wp_region_lit ?_
   refine wpList_valD (some 72) rfl rfl (by (go_simp; first | with_reducible rfl | exact ⟨rfl, rfl⟩ | (trace_state; fail))) ?_
   simp only [Zp, Zq, Zr, Zs]
   refine wpList_callD (some 73) rfl rfl 42 _ ?_ (HQ.out.2.2.2.1 _) ?_
   ·go_simp; try (with_reducible rfl)
   rintro e w9 ⟨rfl, hb9⟩
   refine ⟨_, rfl, ?_⟩
   simp only [Zp, Zq, Zr, Zs]
   clear T0 T1 T2 T3 T4 T5 T6 T7 T8 T9 T10 T11 T12 T13 T14 T15 T16
   replace hb00 := bl_call hb00 (Nat.le_refl _) hb9
   replace hT := hT.call hb9
   replace hs := hs.call hb9
   replace hX := hX.call hb9
   replace hY := hY.call hb9
   replace hI := hI.call hb9
   clear hb9
   refine wpList_valD (some 71) rfl rfl (by (go_simp; first | with_reducible rfl | exact ⟨rfl, rfl⟩ | (trace_state; fail))) ?_
   simp only [Zp, Zq, Zr, Zs]
   refine wpList_valD (some 74) rfl rfl (by (go_simp; first | with_reducible rfl | exact ⟨rfl, rfl⟩ | (trace_state; fail))) ?_
   simp only [Zp, Zq, Zr, Zs]
   refine wpList_valD (some 75) rfl rfl (by (go_simp; first | with_reducible rfl | exact ⟨rfl, rfl⟩ | (trace_state; fail))) ?_
   simp only [Zp, Zq, Zr, Zs]
   refine wpList_valD (some 18) rfl rfl (by (skip; go_simp; first | with_reducible rfl | exact ⟨rfl, rfl⟩ | (trace_state; fail))) ?_
   simp only [Zp, Zq, Zr, Zs]
   have hN := Vs.new w9 (totL (.slice none 0 0) 0 z16) #[.slice none 0 0, .int .i64 0, .int .u8 0, .int .u8 0, .int .u8 0, .int .u8 0, .int .u8 0, .int .u8 0, .int .u8 0, .int .u8 0, .int .u8 0, .int .u8 0, .int .u8 0, .int .u8 0, .int .u8 0, .int .u8 0, .int .u8 0, .int .u8 0] 76 rfl
   have hbA := (Below.refl w9.heap.size w9).alloc (Nat.le_refl _) (.cells #[.slice none 0 0, .int .i64 0, .int .u8 0, .int .u8 0, .int .u8 0, .int .u8 0, .int .u8 0, .int .u8 0, .int .u8 0, .int .u8 0, .int .u8 0, .int .u8 0, .int .u8 0, .int .u8 0, .int .u8 0, .int .u8 0, .int .u8 0, .int .u8 0] 76)
   have hst := hN.storeT (k := z16) (v := .slice none 0 0) (m := 0) z16_length z16_length rfl
   refine wpList_skipD rfl rfl (exec_store rfl (by kernel_rfl) (by kernel_rfl) hst) ?_
   refine wpList_valD (some 19) rfl rfl (by (go_simp; first | with_reducible rfl | exact ⟨rfl, rfl⟩ | (trace_state; fail))) ?_
   simp only [Zp, Zq, Zr, Zs]
   replace hN := hN.setT (k := z16) (v := .slice none 0 0) (m := 0) z16_length z16_length
   have hbC := bl_setCells hbA (Nat.le_refl _) 0 (totL (.slice none 0 0) 0 z16)
   replace hb00 := bl_call hb00 (Nat.le_refl _) hbC
   replace hT := hT.call hbC
   replace hs := hs.call hbC
   replace hX := hX.call hbC
   replace hY := hY.call hbC
   replace hI := hI.call hbC
   clear hst hbA hbC hN
   generalize (w9.alloc (.cells #[.slice none 0 0, .int .i64 0, .int .u8 0, .int .u8 0, .int .u8 0, .int .u8 0, .int .u8 0, .int .u8 0, .int .u8 0, .int .u8 0, .int .u8 0, .int .u8 0, .int .u8 0, .int .u8 0, .int .u8 0, .int .u8 0, .int .u8 0, .int .u8 0] 76)).setCells w9.heap.size 0 (totL (.slice none 0 0) 0 z16) = w10 at hT hs hX hY hI hb00 ⊢
   go_upto_region 11 with fail
   obtain ⟨⟨T0, T1, T2, T3, T4, T5, T6, T7⟩, ⟨T8, T9, T10, T11, T12, T13, T14, T15⟩, T16⟩ := hT.get8
   refine wp_region_lit ?_
   refine wpList_valD (some 76) rfl rfl (by (go_simp; first | with_reducible rfl | exact ⟨rfl, rfl⟩ | (trace_state; fail))) ?_
   simp only [Zp, Zq, Zr, Zs]
   refine wpList_valD (some 77) rfl rfl (by (go_simp; first | with_reducible rfl | exact ⟨rfl, rfl⟩ | (trace_state; fail))) ?_
   simp only [Zp, Zq, Zr, Zs]
   refine wpList_valD (some 78) rfl rfl (by (go_simp; first | with_reducible rfl | exact ⟨rfl, rfl⟩ | (trace_state; fail))) ?_
   simp only [Zp, Zq, Zr, Zs]
   refine wpList_valD (some 79) rfl rfl (by (go_simp; first | with_reducible rfl | exact ⟨rfl, rfl⟩ | (trace_state; fail))) ?_
   simp only [Zp, Zq, Zr, Zs]
   refine wpList_valG (some 80) rfl (by kernel_rfl) (by (go_simp; first | with_reducible rfl | exact ⟨rfl, rfl⟩ | (trace_state; fail))) ?_
   simp only [Zp, Zq, Zr, Zs]
   refine wpList_valG (some 81) rfl (by kernel_rfl) (by (go_simp; first | with_reducible rfl | exact ⟨rfl, rfl⟩ | (trace_state; fail))) ?_
   simp only [Zp, Zq, Zr, Zs]
   refine wpList_valG (some 82) rfl (by kernel_rfl) (by (go_simp; first | with_reducible rfl | exact ⟨rfl, rfl⟩ | (trace_state; fail))) ?_
   simp only [Zp, Zq, Zr, Zs]
   refine wpList_valD (some 83) rfl rfl (by (go_simp; first | with_reducible rfl | exact ⟨rfl, rfl⟩ | (trace_state; fail))) ?_
   simp only [Zp, Zq, Zr, Zs]
   refine wpList_valD (some 84) rfl rfl (by (go_simp; first | with_reducible rfl | exact ⟨rfl, rfl⟩ | (trace_state; fail))) ?_
   simp only [Zp, Zq, Zr, Zs]
   refine wpList_valG (some 85) rfl (by kernel_rfl) (by (go_simp; first | with_reducible rfl | exact ⟨rfl, rfl⟩ | (trace_state; fail))) ?_
   simp only [Zp, Zq, Zr, Zs]
   refine wpList_valG (some 86) rfl (by kernel_rfl) (by (go_simp; first | with_reducible rfl | exact ⟨rfl, rfl⟩ | (trace_state; fail))) ?_
   simp only [Zp, Zq, Zr, Zs]
   refine wpList_valG (some 87) rfl (by kernel_rfl) (by (go_simp; first | with_reducible rfl | exact ⟨rfl, rfl⟩ | (trace_state; fail))) ?_
   simp only [Zp, Zq, Zr, Zs]
   refine wpList_valD (some 88) rfl rfl (by (go_simp; first | with_reducible rfl | exact ⟨rfl, rfl⟩ | (trace_state; fail))) ?_
   simp only [Zp, Zq, Zr, Zs]
   refine wpList_valD (some 89) rfl rfl (by (go_simp; first | with_reducible rfl | exact ⟨rfl, rfl⟩ | (trace_state; fail))) ?_
   simp only [Zp, Zq, Zr, Zs]
   refine wpList_valG (some 90) rfl (by kernel_rfl) (by (go_simp; first | with_reducible rfl | exact ⟨rfl, rfl⟩ | (trace_state; fail))) ?_
   simp only [Zp, Zq, Zr, Zs]
   refine wpList_valG (some 91) rfl (by kernel_rfl) (by (go_simp; first | with_reducible rfl | exact ⟨rfl, rfl⟩ | (trace_state; fail))) ?_
   simp only [Zp, Zq, Zr, Zs]
   refine wpList_valG (some 92) rfl (by kernel_rfl) (by (go_simp; first | with_reducible rfl | exact ⟨rfl, rfl⟩ | (trace_state; fail))) ?_
   simp only [Zp, Zq, Zr, Zs]
   refine wpList_valD (some 93) rfl rfl (by (go_simp; first | with_reducible rfl | exact ⟨rfl, rfl⟩ | (trace_state; fail))) ?_
   simp only [Zp, Zq, Zr, Zs]
   refine wpList_valD (some 94) rfl rfl (by (go_simp; first | with_reducible rfl | exact ⟨rfl, rfl⟩ | (trace_state; fail))) ?_
   simp only [Zp, Zq, Zr, Zs]
   refine wpList_valG (some 95) rfl (by kernel_rfl) (by (go_simp; first | with_reducible rfl | exact ⟨rfl, rfl⟩ | (trace_state; fail))) ?_
   simp only [Zp, Zq, Zr, Zs]
   refine wpList_callG (some 96) rfl (by kernel_rfl) 31 _ ?_ (HQ.out.2.2.2.2 _) ?_
   ·go_simp; try (with_reducible rfl)
   rintro e w11 ⟨rfl, hb11⟩
   refine ⟨_, rfl, ?_⟩
   simp only [Zp, Zq, Zr, Zs]
   clear T0 T1 T2 T3 T4 T5 T6 T7 T8 T9 T10 T11 T12 T13 T14 T15 T16
   replace hb00 := bl_call hb00 (Nat.le_refl _) hb11
   replace hT := hT.call hb11
   replace hs := hs.call hb11
   replace hX := hX.call hb11
   replace hY := hY.call hb11
   replace hI := hI.call hb11
   clear hb11
   refine wpList_valG (some 97) rfl (by kernel_rfl) (exec_build rfl (by kernel_rfl) (build_total0 _)) ?_
   simp only [Zp, Zq, Zr, Zs]
   refine wpList_callG (some 98) rfl (by kernel_rfl) 30 _ ?_ (HSM0.out _) ?_
   ·go_simp; try (with_reducible rfl)
   rintro e w12 ⟨rfl, hb12⟩
   refine ⟨_, rfl, ?_⟩
   simp only [Zp, Zq, Zr, Zs]
   replace hb00 := bl_call hb00 (Nat.le_refl _) hb12
   replace hT := hT.call hb12
   replace hs := hs.call hb12
   replace hX := hX.call hb12
   replace hY := hY.call hb12
   replace hI := hI.call hb12
   clear hb12
   refine wpList_valG (some 99) rfl (by kernel_rfl) (by (go_simp; first | with_reducible rfl | exact ⟨rfl, rfl⟩ | (trace_state; fail))) ?_
   simp only [Zp, Zq, Zr, Zs]
   refine wpList_valD (some 100) rfl rfl (by (go_simp; first | with_reducible rfl | exact ⟨rfl, rfl⟩ | (trace_state; fail))) ?_
   simp only [Zp, Zq, Zr, Zs]
   go_wp2_with fail
   go_meet
   case rel => exact ⟨hs, hX, hY, hI, hb00⟩
 case rest =>
  clear hs hX hY hI hb00 hT HBAD HCQ
  obtain ⟨hs, hX, hY, hI, hb00⟩ := hcut
  obtain ⟨⟨s0, s1, s2, s3, s4, s5, s6, s7⟩, ⟨s8, s9, s10, s11, s12, s13, s14, s15⟩, s16⟩ := hs.get8
  go_upto_region 14 with (first
   | (go_at_call 21; refine (HTSK.out _).mono ?_; rintro e w13 ⟨rfl, hb13⟩; replace hb00 := bl_call hb00 (Nat.le_refl _) hb13; replace hs := hs.call hb13; replace hX := hX.call hb13; replace hY := hY.call hb13; replace hI := hI.call hb13; clear s0 s1 s2 s3 s4 s5 s6 s7 s8 s9 s10 s11 s12 s13 s14 s15 s16; clear hb13; obtain ⟨⟨s0, s1, s2, s3, s4, s5, s6, s7⟩, ⟨s8, s9, s10, s11, s12, s13, s14, s15⟩, s16⟩ := hs.get8))
  clear s0 s1 s2 s3 s4 s5 s6 s7 s8 s9 s10 s11 s12 s13 s14 s15 s16
  clear hs HTSK
  have hIl0 := hI.lt
  have hU := Vs.new w13 [.int .u8 yk, .int .u8 (F : Int), .int .i64 yb, .int .i64 yl, .int .i64 ym, .int .i64 yc, .int .i64 pq, .string s] #[.int .u8 yk, .int .u8 (F : Int), .int .i64 yb, .int .i64 yl, .int .i64 ym, .int .i64 yc, .int .i64 pq, .string s] 62 rfl
  have hbA : Below w13.heap.size w13 (w13.alloc (.cells #[.int .u8 yk, .int .u8 (F : Int), .int .i64 yb, .int .i64 yl, .int .i64 ym, .int .i64 yc, .int .i64 pq, .string s] 62)) := by repeat (first | exact bA | with_reducible assumption | apply bB)
  replace hb00 := bl_call hb00 (Nat.le_refl _) hbA
  replace hX := hX.call hbA
  replace hY := hY.call hbA
  replace hI := hI.call hbA
  clear hbA
  generalize w13.alloc (.cells #[.int .u8 yk, .int .u8 (F : Int), .int .i64 yb, .int .i64 yl, .int .i64 ym, .int .i64 yc, .int .i64 pq, .string s] 62) = w14 at hb00 hX hY hI hU ⊢
  obtain ⟨ub, hub⟩ : ∃ z, w13.heap.size = z := ⟨_, rfl⟩
  rw [hub] at hU hIl0
  simp only [hub]
  clear hub
  obtain ⟨⟨U0, U1, U2, U3, U4, U5, U6, U7⟩, ⟨U8, U9, U10, U11, U12, U13, U14, U15⟩, U16⟩ := hU.get8
  go_upto_region 15 with (first
   | (go_at_call 32; refine (HOO.out _).mono ?_; rintro e w15 ⟨rfl, hb15⟩; replace hb00 := bl_call hb00 (Nat.le_refl _) hb15; replace hX := hX.call hb15; replace hY := hY.call hb15; replace hI := hI.call hb15; replace hU := hU.call hb15; clear U0 U1 U2 U3 U4 U5 U6 U7 U8 U9 U10 U11 U12 U13 U14 U15 U16; clear hb15; obtain ⟨⟨U0, U1, U2, U3, U4, U5, U6, U7⟩, ⟨U8, U9, U10, U11, U12, U13, U14, U15⟩, U16⟩ := hU.get8))
  clear U0 U1 U2 U3 U4 U5 U6 U7 U8 U9 U10 U11 U12 U13 U14 U15 U16
  have HXX := Lib.hid hX
  have hI15 := hI.lt
  apply region_Z2 (n := 7) (m := 8) (f := 7) (fun x0 x1 => (TeK w15 (w.heap.size + 1 + 1) n (.slice A1 xs.length c1) M1 K1 (esK (zK F n))) (some x0) (some x1) true) ((TeT w15 (w.heap.size + 1 + 1)) none none) ((TeK w15 (w.heap.size + 1 + 1) n (.slice A1 xs.length c1) M1 K1 (esK (zK F n))) none none false) ((TeK.weak _ _ _)) (TeK.clo) ((TeK.start HXX.out))
  case hm => kernel_rfl
  case hB => kernel_rfl
  case hf => rfl
  case' h =>
   refine WpX.vD 0 (some 106) ?_ rfl rfl (by kernel_rfl) (fun _ _ _ h => h) rfl (fun wz hwz => ?_) ?_
   rotate_left
   ·go_simp; try (with_reducible rfl)
   simp only [Zp, Zq, Zr, Zs]
   refine WpX.vD 2 (some 108) ?_ rfl rfl (by kernel_rfl) (fun _ _ _ h => h) rfl (fun wz hwz => ?_) ?_
   rotate_left
   ·go_simp; try (with_reducible rfl)
   simp only [Zp, Zq, Zr, Zs]
   refine WpX.twoD 1 3 (some 107) (some 109) rfl rfl rfl rfl (by kernel_rfl) (fun g : Nat => Value.slice (some ⟨g, 0, none⟩) n n) (fun ga => (TeT w15 (w.heap.size + 1 + 1)) (some ga) none) (fun ga => (TeK w15 (w.heap.size + 1 + 1) n (.slice A1 xs.length c1) M1 K1 (esK (zK F n))) (some ga) none false) (Turns.val rfl (fun _ _ h => h) (fun _ => (TeK.weak _ _ _)) (fun _ => TeK.clo) (fun wz hS => ⟨wz.heap.size, wz.alloc (.cells (cellsE (List.replicate n (0, 0))).toArray 99), by go_simp; try (with_reducible rfl), hS.mkA (by rw [zK_esK])⟩)) (fun g : Nat => Value.slice (some ⟨g, 0, none⟩) n n) (fun gb => (TeT w15 (w.heap.size + 1 + 1)) none (some gb)) (fun gb => (TeK w15 (w.heap.size + 1 + 1) n (.slice A1 xs.length c1) M1 K1 (esK (zK F n))) none (some gb) false) (Turns.val rfl (fun _ _ h => h) (fun _ => (TeK.weak _ _ _)) (fun _ => TeK.clo) (fun wz hS => ⟨wz.heap.size, wz.alloc (.cells (cellsE (List.replicate n (0, 0))).toArray 99), by go_simp; try (with_reducible rfl), hS.mkB (by rw [zK_esK])⟩)) (fun ga => ?rz15_2a) (fun gb => ?rz15_2b)
   case' rz15_2a =>
    simp only [Zp, Zq, Zr, Zs]
    refine WpX.vD 4 (some 110) ?_ rfl rfl (by kernel_rfl) (fun _ _ _ h => h) rfl (fun wz hwz => ?_) ?_
    rotate_left
    ·go_simp; try (with_reducible rfl)
    simp only [Zp, Zq, Zr, Zs]
    refine WpX.twoSkip 3 5 (some 109) none rfl rfl rfl rfl (by kernel_rfl) (fun g : Nat => Value.slice (some ⟨g, 0, none⟩) n n) (fun gb => (TeT w15 (w.heap.size + 1 + 1)) (some ga) (some gb)) (fun gb => (TeK w15 (w.heap.size + 1 + 1) n (.slice A1 xs.length c1) M1 K1 (esK (zK F n))) (some ga) (some gb) false) (Turns.val rfl (fun _ _ h => h) (fun _ => (TeK.weak _ _ _)) (fun _ => TeK.clo) (fun wz hS => ⟨wz.heap.size, wz.alloc (.cells (cellsE (List.replicate n (0, 0))).toArray 99), by go_simp; try (with_reducible rfl), hS.mkB (by rw [zK_esK])⟩)) ((TeT w15 (w.heap.size + 1 + 1)) (some ga) none) ((TeK w15 (w.heap.size + 1 + 1) n (.slice A1 xs.length c1) M1 K1 (esK (zK F n))) (some ga) none true) (fun _ h => h) ((TeK.weak _ _ _)) (TeK.clo) rfl (fun wz hS => ?rz15_3s) (fun gb => ?rz15_3a) ?rz15_3b
    case' rz15_3s =>
     (obtain ⟨v0, v1, v2, v3, v4⟩ := (hS.v rfl).tot; exact ⟨wz.setCell ⟨w.heap.size + 1 + 1, 0, none⟩ (.slice (some ⟨ga, 0, none⟩) n n), by go_simp; try (with_reducible rfl), hS.put⟩)
    case' rz15_3a =>
     simp only [Zp, Zq, Zr, Zs]
     refine WpX.oneSkip 5 none rfl rfl (by kernel_rfl) ((TeT w15 (w.heap.size + 1 + 1)) (some ga) (some gb)) ((TeK w15 (w.heap.size + 1 + 1) n (.slice A1 xs.length c1) M1 K1 (esK (zK F n))) (some ga) (some gb) true) (fun _ h => h) ((TeK.weak _ _ _)) (TeK.clo) rfl (fun wz hS => ?_) ?_
     ·(obtain ⟨v0, v1, v2, v3, v4⟩ := (hS.v rfl).tot; exact ⟨wz.setCell ⟨w.heap.size + 1 + 1, 0, none⟩ (.slice (some ⟨ga, 0, none⟩) n n), by go_simp; try (with_reducible rfl), hS.put⟩)
     simp only [Act.put]
     refine WpX.vD 6 (some 111) ?_ rfl rfl (by kernel_rfl) (fun _ _ _ h => h) rfl (fun wz hwz => ?_) ?_
     rotate_left
     ·go_simp; try (with_reducible rfl)
     simp only [Zp, Zq, Zr, Zs]
     refine WpX.done (by kernel_rfl) (fun w16 hZ => ⟨ga, gb, rfl, ?_⟩)
     ·exact hZ
    case' rz15_3b =>
     simp only [Act.put]
     refine WpX.oneD 3 (some 109) rfl rfl (by kernel_rfl) (fun g : Nat => Value.slice (some ⟨g, 0, none⟩) n n) (fun gb => (TeT w15 (w.heap.size + 1 + 1)) (some ga) (some gb)) (fun gb => (TeK w15 (w.heap.size + 1 + 1) n (.slice A1 xs.length c1) M1 K1 (esK (zK F n))) (some ga) (some gb) true) (Turns.val rfl (fun _ _ h => h) (fun _ => (TeK.weak _ _ _)) (fun _ => TeK.clo) (fun wz hS => ⟨wz.heap.size, wz.alloc (.cells (cellsE (List.replicate n (0, 0))).toArray 99), by go_simp; try (with_reducible rfl), hS.mkB (by rw [zK_esK])⟩)) (fun gb => ?_)
     simp only [Zp, Zq, Zr, Zs]
     refine WpX.vD 6 (some 111) ?_ rfl rfl (by kernel_rfl) (fun _ _ _ h => h) rfl (fun wz hwz => ?_) ?_
     rotate_left
     ·go_simp; try (with_reducible rfl)
     simp only [Zp, Zq, Zr, Zs]
     refine WpX.done (by kernel_rfl) (fun w16 hZ => ⟨ga, gb, rfl, ?_⟩)
     ·exact hZ
   case' rz15_2b =>
    simp only [Zp, Zq, Zr, Zs]
    refine WpX.oneD 1 (some 107) rfl rfl (by kernel_rfl) (fun g : Nat => Value.slice (some ⟨g, 0, none⟩) n n) (fun ga => (TeT w15 (w.heap.size + 1 + 1)) (some ga) (some gb)) (fun ga => (TeK w15 (w.heap.size + 1 + 1) n (.slice A1 xs.length c1) M1 K1 (esK (zK F n))) (some ga) (some gb) false) (Turns.val rfl (fun _ _ h => h) (fun _ => (TeK.weak _ _ _)) (fun _ => TeK.clo) (fun wz hS => ⟨wz.heap.size, wz.alloc (.cells (cellsE (List.replicate n (0, 0))).toArray 99), by go_simp; try (with_reducible rfl), hS.mkA (by rw [zK_esK])⟩)) (fun ga => ?_)
    simp only [Zp, Zq, Zr, Zs]
    refine WpX.vD 4 (some 110) ?_ rfl rfl (by kernel_rfl) (fun _ _ _ h => h) rfl (fun wz hwz => ?_) ?_
    rotate_left
    ·go_simp; try (with_reducible rfl)
    simp only [Zp, Zq, Zr, Zs]
    refine WpX.oneSkip 5 none rfl rfl (by kernel_rfl) ((TeT w15 (w.heap.size + 1 + 1)) (some ga) (some gb)) ((TeK w15 (w.heap.size + 1 + 1) n (.slice A1 xs.length c1) M1 K1 (esK (zK F n))) (some ga) (some gb) true) (fun _ h => h) ((TeK.weak _ _ _)) (TeK.clo) rfl (fun wz hS => ?_) ?_
    ·(obtain ⟨v0, v1, v2, v3, v4⟩ := (hS.v rfl).tot; exact ⟨wz.setCell ⟨w.heap.size + 1 + 1, 0, none⟩ (.slice (some ⟨ga, 0, none⟩) n n), by go_simp; try (with_reducible rfl), hS.put⟩)
    simp only [Act.put]
    refine WpX.vD 6 (some 111) ?_ rfl rfl (by kernel_rfl) (fun _ _ _ h => h) rfl (fun wz hwz => ?_) ?_
    rotate_left
    ·go_simp; try (with_reducible rfl)
    simp only [Zp, Zq, Zr, Zs]
    refine WpX.done (by kernel_rfl) (fun w16 hZ => ⟨ga, gb, rfl, ?_⟩)
    ·exact hZ
  intro ga gb w16 hZ
  (try simp only [List.drop_succ_cons]); (try simp only [List.drop_zero]); (try simp only [Nat.reduceSub]); (try simp only [List.take_succ_cons]); (try simp only [List.take_zero])
  have hXn := hZ.u rfl ga rfl
  have hBa := (hZ.a ga rfl).2
  have hBb := (hZ.b gb rfl).2
  have hga := (hZ.a ga rfl).1
  have hgb := (hZ.b gb rfl).1
  have hE := hZ.t
  have hbs := hb00.size
  have hul := hU.lt
  have hY2 := hY.exc (S := fun q => q = w.heap.size + 1 + 1) (fun e => by
   have e2 : w.heap.size + 1 + 1 + 1 = w.heap.size + 1 + 1 := e
   omega) hE
  have hI2 := hI.exc (S := fun q => q = w.heap.size + 1 + 1) (fun e => by
   have e2 : w.heap.size + 1 + 1 + 1 + 1 = w.heap.size + 1 + 1 := e
   omega) hE
  have hU2 := hU.exc (S := fun q => q = w.heap.size + 1 + 1) (fun e => by
   have e2 : ub = w.heap.size + 1 + 1 := e
   omega) hE
  have hb2 := hb00.trans (exc_own (hE.mono hbs) (by omega : w.heap.size ≤ w.heap.size + 1 + 1))
  have hyl := hY.lt
  clear hZ hX hY hI hU hb00 hE HXX
  obtain ⟨y0, y1, y2, y3, y4⟩ := hY2.tot
  have hY := hY2.totPutS (.slice (some ⟨gb, 0, none⟩) n n)
  have hX := hXn.far (p := ⟨w.heap.size + 1 + 1 + 1, 0, none⟩) (by dsimp only; omega) (.slice (some ⟨gb, 0, none⟩) n n)
  have hI := hI2.far (p := ⟨w.heap.size + 1 + 1 + 1, 0, none⟩) (by dsimp only; omega) (.slice (some ⟨gb, 0, none⟩) n n)
  have hU := hU2.far (p := ⟨w.heap.size + 1 + 1 + 1, 0, none⟩) (by dsimp only; omega) (.slice (some ⟨gb, 0, none⟩) n n)
  have hb00 := bl_set (p := ⟨w.heap.size + 1 + 1 + 1, 0, none⟩) hb2 (by dsimp only; omega) (.slice (some ⟨gb, 0, none⟩) n n)
  have hA := hBa.far1 (b := w.heap.size + 1 + 1 + 1) (i := 0) (by omega) (.slice (some ⟨gb, 0, none⟩) n n)
  have hB := hBb.far1 (b := w.heap.size + 1 + 1 + 1) (i := 0) (by omega) (.slice (some ⟨gb, 0, none⟩) n n)
  clear hXn hBa hBb hY2 hI2 hU2 hb2
  go_upto_region 16 with fail
  clear y0 y1 y2 y3 y4 hbs hul hyl
  generalize w16.setCell ⟨w.heap.size + 1 + 1 + 1, 0, none⟩ (.slice (some ⟨gb, 0, none⟩) n n) = w17 at hX hY hI hU hA hB hb00 ⊢
  have hn9 : n ≤ 1000000 := by
   have := HNO.out
   omega
  obtain ⟨ca, hca⟩ : ∃ z : Int, (if M1 < 0 ∨ 256 ≤ M1 then (18 : Int) else 0) = z := ⟨_, rfl⟩
  obtain ⟨cb, hcb⟩ : ∃ z : Int, (if M1 < 0 ∨ M2 < 0 ∨ 256 < M1 ∨ 256 < M1 + M2 then (18 : Int) else 0) = z := ⟨_, rfl⟩
  have HCAE := Lib.hid hca
  have HCBE := Lib.hid hcb
  have HX7 := Lib.hid hX
  have HU7 := Lib.hid hU
  have HI7 := Lib.hid hI
  have HA7 := Lib.hid hA
  have HC16 : Hid (∀ (g : Nat) wz, Below w17.heap.size w17 wz → BlkE wz g (esK (zK F n)) → Calls Try.prog 37 #[.agg (totL (.slice (some ⟨ga, 0, none⟩) n n) M1 K1).toArray, .agg #[.int .u8 yk, .int .u8 (F : Int), .int .i64 yb, .int .i64 yl, .int .i64 ym, .int .i64 yc, .int .i64 pq, .string s], .agg (cells8 id).toArray, .slice (some ⟨g, 0, none⟩) n n] wz (RetTA ca wz)) := fun g wz h1 h2 => by
   rw [← HCAE.out]
   exact HA1.out _ _ M1 K1 wz HK1.out (BlkE.slNn (HA7.out.call h1) (zK_length F n) hn9) (BlkE.slNn h2 (zK_length F n) hn9)
  clear hca hcb
  apply region_Z3 (n := 11) (m := 12) (f := 11) (fun x0 x1 x2 => (AnK w17 (esK (zK F n))) (some x0) (some x1) (some x2) true) ((AnT w17) none none none) ((AnK w17 (esK (zK F n))) none none none false) ((AnK.weak _ _ _ _)) (AnK.clo) ((AnK.start w17))
  case hm => kernel_rfl
  case hB => kernel_rfl
  case hf => rfl
  case' h =>
   refine WpX.vD 0 (some 113) ?_ rfl rfl (by kernel_rfl) (fun _ _ _ h => h) rfl (fun wz hwz => ?_) ?_
   rotate_left
   ·(refine Eq.trans (exec_load rfl (by kernel_rfl) ((HX7.out.call hwz).loadT HK1.out)) ?_; with_reducible rfl)
   simp only [Zp, Zq, Zr, Zs]
   refine WpX.vD 1 (some 114) ?_ rfl rfl (by kernel_rfl) (fun _ _ _ h => h) rfl (fun wz hwz => ?_) ?_
   rotate_left
   ·(have hz := (HU7.out.call hwz).get8; obtain ⟨⟨z0, z1, z2, z3, z4, z5, z6, z7⟩, ⟨y0, y1, y2, y3, y4, y5, y6, y7⟩, y8⟩ := hz; go_simp; try (with_reducible rfl))
   simp only [Zp, Zq, Zr, Zs]
   refine WpX.vD 2 (some 115) ?_ rfl rfl (by kernel_rfl) (fun _ _ _ h => h) rfl (fun wz hwz => ?_) ?_
   rotate_left
   ·(refine Eq.trans (exec_load rfl (by kernel_rfl) ((HI7.out.call hwz).loadId HID.out)) ?_; with_reducible rfl)
   simp only [Zp, Zq, Zr, Zs]
   refine WpX.vD 3 (some 116) ?_ rfl rfl (by kernel_rfl) (fun _ _ _ h => h) rfl (fun wz hwz => ?_) ?_
   rotate_left
   ·go_simp; try (with_reducible rfl)
   simp only [Zp, Zq, Zr, Zs]
   refine WpX.twoD 4 9 (some 117) (some 22) rfl rfl rfl rfl (by kernel_rfl) (fun g : Nat => Value.slice (some ⟨g, 0, none⟩) n n) (fun g1 => (AnT w17) (some g1) none none) (fun g1 => (AnK w17 (esK (zK F n))) (some g1) none none false) (Turns.val rfl (fun _ _ h => h) (fun _ => (AnK.weak _ _ _ _)) (fun _ => AnK.clo) (fun wz hS => ⟨wz.heap.size, wz.alloc (.cells (cellsE (List.replicate n (0, 0))).toArray 99), by go_simp; try (with_reducible rfl), hS.mkA (by rw [zK_esK])⟩)) (fun x : Nat => Value.pointer (some ⟨x, 0, none⟩)) (fun x3 => (AnT w17) none none (some x3)) (fun x3 => (AnK w17 (esK (zK F n))) none none (some x3) false) (Turns.val rfl (fun _ _ h => h) (fun _ => (AnK.weak _ _ _ _)) (fun _ => AnK.clo) (fun wz hS => ⟨wz.heap.size, wz.alloc (.cells #[.slice none 0 0, .int .i64 0, .int .u8 0, .int .u8 0, .int .u8 0, .int .u8 0, .int .u8 0, .int .u8 0, .int .u8 0, .int .u8 0, .int .u8 0, .int .u8 0, .int .u8 0, .int .u8 0, .int .u8 0, .int .u8 0, .int .u8 0, .int .u8 0] 76), by go_simp; try (with_reducible rfl), hS.mkC rfl⟩)) (fun g1 => ?rz16_5a) (fun x3 => ?rz16_5b)
   case' rz16_5a =>
    simp only [Zp, Zq, Zr, Zs]
    refine WpX.twoD 5 9 (some 118) (some 22) rfl rfl rfl rfl (by kernel_rfl) (fun q : Value × Int × List Int => Value.tuple #[.agg (totL q.1 q.2.1 q.2.2).toArray, .int .i64 ca]) (fun q2 => (AnT w17) (some g1) (some q2) none) (fun q2 => (AnK w17 (esK (zK F n))) (some g1) (some q2) none false) (Turns.call rfl (fun _ _ h => h) (fun _ => (AnK.weak _ _ _ _)) (fun _ => AnK.clo) (fun wz hS => (HC16.out g1 wz hS.t (hS.a g1 rfl).2).mono fun e w' ⟨u, m, k, he, h1, h2, hb'⟩ => ⟨(u, m, k), he, hS.mkB (u, m, k) h1 h2 hb'⟩) (fun wz hS => by go_simp; try (with_reducible rfl))) (fun x : Nat => Value.pointer (some ⟨x, 0, none⟩)) (fun x3 => (AnT w17) (some g1) none (some x3)) (fun x3 => (AnK w17 (esK (zK F n))) (some g1) none (some x3) false) (Turns.val rfl (fun _ _ h => h) (fun _ => (AnK.weak _ _ _ _)) (fun _ => AnK.clo) (fun wz hS => ⟨wz.heap.size, wz.alloc (.cells #[.slice none 0 0, .int .i64 0, .int .u8 0, .int .u8 0, .int .u8 0, .int .u8 0, .int .u8 0, .int .u8 0, .int .u8 0, .int .u8 0, .int .u8 0, .int .u8 0, .int .u8 0, .int .u8 0, .int .u8 0, .int .u8 0, .int .u8 0, .int .u8 0] 76), by go_simp; try (with_reducible rfl), hS.mkC rfl⟩)) (fun q2 => ?rz16_6a) (fun x3 => ?rz16_6b)
    case' rz16_6a =>
     simp only [Zp, Zq, Zr, Zs]
     refine WpX.vD 6 (some 112) ?_ rfl rfl (by kernel_rfl) (fun _ _ _ h => h) rfl (fun wz hwz => ?_) ?_
     rotate_left
     ·go_simp; try (with_reducible rfl)
     simp only [Zp, Zq, Zr, Zs]
     refine WpX.vD 7 (some 119) ?_ rfl rfl (by kernel_rfl) (fun _ _ _ h => h) rfl (fun wz hwz => ?_) ?_
     rotate_left
     ·go_simp; try (with_reducible rfl)
     simp only [Zp, Zq, Zr, Zs]
     refine WpX.vD 8 (some 120) ?_ rfl rfl (by kernel_rfl) (fun _ _ _ h => h) rfl (fun wz hwz => ?_) ?_
     rotate_left
     ·go_simp; try (with_reducible rfl)
     simp only [Zp, Zq, Zr, Zs]
     refine WpX.oneD 9 (some 22) rfl rfl (by kernel_rfl) (fun x : Nat => Value.pointer (some ⟨x, 0, none⟩)) (fun x3 => (AnT w17) (some g1) (some q2) (some x3)) (fun x3 => (AnK w17 (esK (zK F n))) (some g1) (some q2) (some x3) false) (Turns.val rfl (fun _ _ h => h) (fun _ => (AnK.weak _ _ _ _)) (fun _ => AnK.clo) (fun wz hS => ⟨wz.heap.size, wz.alloc (.cells #[.slice none 0 0, .int .i64 0, .int .u8 0, .int .u8 0, .int .u8 0, .int .u8 0, .int .u8 0, .int .u8 0, .int .u8 0, .int .u8 0, .int .u8 0, .int .u8 0, .int .u8 0, .int .u8 0, .int .u8 0, .int .u8 0, .int .u8 0, .int .u8 0] 76), by go_simp; try (with_reducible rfl), hS.mkC rfl⟩)) (fun x3 => ?_)
     simp only [Zp, Zq, Zr, Zs]
     refine WpX.oneSkip 10 none rfl rfl (by kernel_rfl) ((AnT w17) (some g1) (some q2) (some x3)) ((AnK w17 (esK (zK F n))) (some g1) (some q2) (some x3) true) (fun _ h => h) ((AnK.weak _ _ _ _)) (AnK.clo) rfl (fun wz hS => ?_) ?_
     ·(exact ⟨_, exec_store rfl (by kernel_rfl) (by kernel_rfl) (((hS.c x3 rfl).2 rfl).storeT (m := q2.2.1) z16_length (hS.b q2 rfl).2 (hS.b q2 rfl).1), hS.put (totL q2.1 q2.2.1 q2.2.2)⟩)
     simp only [Act.put]
     refine WpX.done (by kernel_rfl) (fun w18 hZ => ⟨g1, q2, x3, rfl, ?_⟩)
     ·exact hZ
    case' rz16_6b =>
     simp only [Zp, Zq, Zr, Zs]
     refine WpX.oneD 5 (some 118) rfl rfl (by kernel_rfl) (fun q : Value × Int × List Int => Value.tuple #[.agg (totL q.1 q.2.1 q.2.2).toArray, .int .i64 ca]) (fun q2 => (AnT w17) (some g1) (some q2) (some x3)) (fun q2 => (AnK w17 (esK (zK F n))) (some g1) (some q2) (some x3) false) (Turns.call rfl (fun _ _ h => h) (fun _ => (AnK.weak _ _ _ _)) (fun _ => AnK.clo) (fun wz hS => (HC16.out g1 wz hS.t (hS.a g1 rfl).2).mono fun e w' ⟨u, m, k, he, h1, h2, hb'⟩ => ⟨(u, m, k), he, hS.mkB (u, m, k) h1 h2 hb'⟩) (fun wz hS => by go_simp; try (with_reducible rfl))) (fun q2 => ?_)
     simp only [Zp, Zq, Zr, Zs]
     refine WpX.vD 6 (some 112) ?_ rfl rfl (by kernel_rfl) (fun _ _ _ h => h) rfl (fun wz hwz => ?_) ?_
     rotate_left
     ·go_simp; try (with_reducible rfl)
     simp only [Zp, Zq, Zr, Zs]
     refine WpX.vD 7 (some 119) ?_ rfl rfl (by kernel_rfl) (fun _ _ _ h => h) rfl (fun wz hwz => ?_) ?_
     rotate_left
     ·go_simp; try (with_reducible rfl)
     simp only [Zp, Zq, Zr, Zs]
     refine WpX.vD 8 (some 120) ?_ rfl rfl (by kernel_rfl) (fun _ _ _ h => h) rfl (fun wz hwz => ?_) ?_
     rotate_left
     ·go_simp; try (with_reducible rfl)
     simp only [Zp, Zq, Zr, Zs]
     refine WpX.oneSkip 10 none rfl rfl (by kernel_rfl) ((AnT w17) (some g1) (some q2) (some x3)) ((AnK w17 (esK (zK F n))) (some g1) (some q2) (some x3) true) (fun _ h => h) ((AnK.weak _ _ _ _)) (AnK.clo) rfl (fun wz hS => ?_) ?_
     ·(exact ⟨_, exec_store rfl (by kernel_rfl) (by kernel_rfl) (((hS.c x3 rfl).2 rfl).storeT (m := q2.2.1) z16_length (hS.b q2 rfl).2 (hS.b q2 rfl).1), hS.put (totL q2.1 q2.2.1 q2.2.2)⟩)
     simp only [Act.put]
     refine WpX.done (by kernel_rfl) (fun w18 hZ => ⟨g1, q2, x3, rfl, ?_⟩)
     ·exact hZ
   case' rz16_5b =>
    simp only [Zp, Zq, Zr, Zs]
    refine WpX.oneD 4 (some 117) rfl rfl (by kernel_rfl) (fun g : Nat => Value.slice (some ⟨g, 0, none⟩) n n) (fun g1 => (AnT w17) (some g1) none (some x3)) (fun g1 => (AnK w17 (esK (zK F n))) (some g1) none (some x3) false) (Turns.val rfl (fun _ _ h => h) (fun _ => (AnK.weak _ _ _ _)) (fun _ => AnK.clo) (fun wz hS => ⟨wz.heap.size, wz.alloc (.cells (cellsE (List.replicate n (0, 0))).toArray 99), by go_simp; try (with_reducible rfl), hS.mkA (by rw [zK_esK])⟩)) (fun g1 => ?_)
    simp only [Zp, Zq, Zr, Zs]
    refine WpX.oneD 5 (some 118) rfl rfl (by kernel_rfl) (fun q : Value × Int × List Int => Value.tuple #[.agg (totL q.1 q.2.1 q.2.2).toArray, .int .i64 ca]) (fun q2 => (AnT w17) (some g1) (some q2) (some x3)) (fun q2 => (AnK w17 (esK (zK F n))) (some g1) (some q2) (some x3) false) (Turns.call rfl (fun _ _ h => h) (fun _ => (AnK.weak _ _ _ _)) (fun _ => AnK.clo) (fun wz hS => (HC16.out g1 wz hS.t (hS.a g1 rfl).2).mono fun e w' ⟨u, m, k, he, h1, h2, hb'⟩ => ⟨(u, m, k), he, hS.mkB (u, m, k) h1 h2 hb'⟩) (fun wz hS => by go_simp; try (with_reducible rfl))) (fun q2 => ?_)
    simp only [Zp, Zq, Zr, Zs]
    refine WpX.vD 6 (some 112) ?_ rfl rfl (by kernel_rfl) (fun _ _ _ h => h) rfl (fun wz hwz => ?_) ?_
    rotate_left
    ·go_simp; try (with_reducible rfl)
    simp only [Zp, Zq, Zr, Zs]
    refine WpX.vD 7 (some 119) ?_ rfl rfl (by kernel_rfl) (fun _ _ _ h => h) rfl (fun wz hwz => ?_) ?_
    rotate_left
    ·go_simp; try (with_reducible rfl)
    simp only [Zp, Zq, Zr, Zs]
    refine WpX.vD 8 (some 120) ?_ rfl rfl (by kernel_rfl) (fun _ _ _ h => h) rfl (fun wz hwz => ?_) ?_
    rotate_left
    ·go_simp; try (with_reducible rfl)
    simp only [Zp, Zq, Zr, Zs]
    refine WpX.oneSkip 10 none rfl rfl (by kernel_rfl) ((AnT w17) (some g1) (some q2) (some x3)) ((AnK w17 (esK (zK F n))) (some g1) (some q2) (some x3) true) (fun _ h => h) ((AnK.weak _ _ _ _)) (AnK.clo) rfl (fun wz hS => ?_) ?_
    ·(exact ⟨_, exec_store rfl (by kernel_rfl) (by kernel_rfl) (((hS.c x3 rfl).2 rfl).storeT (m := q2.2.1) z16_length (hS.b q2 rfl).2 (hS.b q2 rfl).1), hS.put (totL q2.1 q2.2.1 q2.2.2)⟩)
    simp only [Act.put]
    refine WpX.done (by kernel_rfl) (fun w18 hZ => ⟨g1, q2, x3, rfl, ?_⟩)
    ·exact hZ
  intro g1 q2 x3 w18 hZ
  (try simp only [List.drop_succ_cons]); (try simp only [List.drop_zero]); (try simp only [Nat.reduceSub]); (try simp only [List.take_succ_cons]); (try simp only [List.take_zero])
  have hb18 := hZ.t
  replace hb00 := bl_call hb00 (Nat.le_refl _) hb18
  replace hX := hX.call hb18
  replace hY := hY.call hb18
  replace hI := hI.call hb18
  replace hU := hU.call hb18
  replace hA := hA.call hb18
  replace hB := hB.call hb18
  clear hZ hb18 HX7 HU7 HI7 HA7 HC16
  have HC17 : Hid (∀ wz, Below w18.heap.size w18 wz → Calls Try.prog 27 #[.agg (totL (.slice (some ⟨ga, 0, none⟩) n n) M1 K1).toArray, .agg #[.int .u8 yk, .int .u8 (F : Int), .int .i64 yb, .int .i64 yl, .int .i64 ym, .int .i64 yc, .int .i64 pq, .string s], .agg (totL (.slice (some ⟨gb, 0, none⟩) n n) M2 K2).toArray] wz (RetTA cb wz)) := fun wz h1 => by
   rw [← HCBE.out]
   exact HA2.out _ _ M1 M2 K1 K2 wz HK1.out HK2.out (BlkE.slNn (hA.call h1) (zK_length F n) hn9) (BlkE.slNn (hB.call h1) (zK_length F n) hn9)
  go_upto_region 17 with fail
  obtain ⟨⟨U0, U1, U2, U3, U4, U5, U6, U7⟩, ⟨U8, U9, U10, U11, U12, U13, U14, U15⟩, U16⟩ := hU.get8
  refine wp_region_lit ?_
  refine wpList_valD (some 122) rfl rfl (exec_load rfl (by kernel_rfl) (hX.loadT HK1.out)) ?_
  simp only [Zp, Zq, Zr, Zs]
  refine wpList_valD (some 123) rfl rfl (by (go_simp; first | with_reducible rfl | exact ⟨rfl, rfl⟩ | (trace_state; fail))) ?_
  simp only [Zp, Zq, Zr, Zs]
  refine wpList_valD (some 124) rfl rfl (exec_load rfl (by kernel_rfl) (hY.loadT HK2.out)) ?_
  simp only [Zp, Zq, Zr, Zs]
  refine wpList_callD (some 125) rfl rfl 27 _ ?_ (HC17.out w18 (Below.refl _ _)) ?_
  ·go_simp; try (with_reducible rfl)
  rintro e w19 ⟨u9, m9, k9, rfl, hu9, hk9, hb19⟩
  refine ⟨_, rfl, ?_⟩
  simp only [Zp, Zq, Zr, Zs]
  clear U0 U1 U2 U3 U4 U5 U6 U7 U8 U9 U10 U11 U12 U13 U14 U15 U16
  replace hb00 := bl_call hb00 (Nat.le_refl _) hb19
  replace hX := hX.call hb19
  replace hY := hY.call hb19
  replace hI := hI.call hb19
  replace hU := hU.call hb19
  replace hA := hA.call hb19
  replace hB := hB.call hb19
  clear hb19
  refine wpList_valD (some 121) rfl rfl (by (go_simp; first | with_reducible rfl | exact ⟨rfl, rfl⟩ | (trace_state; fail))) ?_
  simp only [Zp, Zq, Zr, Zs]
  refine wpList_valD (some 126) rfl rfl (by (go_simp; first | with_reducible rfl | exact ⟨rfl, rfl⟩ | (trace_state; fail))) ?_
  simp only [Zp, Zq, Zr, Zs]
  refine wpList_valD (some 127) rfl rfl (by (go_simp; first | with_reducible rfl | exact ⟨rfl, rfl⟩ | (trace_state; fail))) ?_
  simp only [Zp, Zq, Zr, Zs]
  refine wpList_valD (some 24) rfl rfl (by (skip; go_simp; first | with_reducible rfl | exact ⟨rfl, rfl⟩ | (trace_state; fail))) ?_
  simp only [Zp, Zq, Zr, Zs]
  have hN := Vs.new w19 (totL (.slice none 0 0) 0 z16) #[.slice none 0 0, .int .i64 0, .int .u8 0, .int .u8 0, .int .u8 0, .int .u8 0, .int .u8 0, .int .u8 0, .int .u8 0, .int .u8 0, .int .u8 0, .int .u8 0, .int .u8 0, .int .u8 0, .int .u8 0, .int .u8 0, .int .u8 0, .int .u8 0] 76 rfl
  have hbA := (Below.refl w19.heap.size w19).alloc (Nat.le_refl _) (.cells #[.slice none 0 0, .int .i64 0, .int .u8 0, .int .u8 0, .int .u8 0, .int .u8 0, .int .u8 0, .int .u8 0, .int .u8 0, .int .u8 0, .int .u8 0, .int .u8 0, .int .u8 0, .int .u8 0, .int .u8 0, .int .u8 0, .int .u8 0, .int .u8 0] 76)
  have hst := hN.storeT (k := k9) (v := u9) (m := m9) z16_length hk9 hu9
  refine wpList_skipD rfl rfl (exec_store rfl (by kernel_rfl) (by kernel_rfl) hst) ?_
  refine wpList_valD (some 25) rfl rfl (by (go_simp; first | with_reducible rfl | exact ⟨rfl, rfl⟩ | (trace_state; fail))) ?_
  simp only [Zp, Zq, Zr, Zs]
  have hbC := bl_setCells hbA (Nat.le_refl _) 0 (totL u9 m9 k9)
  replace hb00 := bl_call hb00 (Nat.le_refl _) hbC
  replace hX := hX.call hbC
  replace hY := hY.call hbC
  replace hI := hI.call hbC
  replace hU := hU.call hbC
  replace hA := hA.call hbC
  replace hB := hB.call hbC
  clear hst hbA hbC hN
  generalize (w19.alloc (.cells #[.slice none 0 0, .int .i64 0, .int .u8 0, .int .u8 0, .int .u8 0, .int .u8 0, .int .u8 0, .int .u8 0, .int .u8 0, .int .u8 0, .int .u8 0, .int .u8 0, .int .u8 0, .int .u8 0, .int .u8 0, .int .u8 0, .int .u8 0, .int .u8 0] 76)).setCells w19.heap.size 0 (totL u9 m9 k9) = w20 at hX hY hI hU hA hB hb00 ⊢
  obtain ⟨d1, hd1⟩ : ∃ z, decide (M1 < 0 ∨ 256 ≤ M1) = z := ⟨_, rfl⟩
  obtain ⟨d2, hd2⟩ : ∃ z, decide (M1 < 0 ∨ M2 < 0 ∨ 256 < M1 ∨ 256 < M1 + M2) = z := ⟨_, rfl⟩
  have HD1 := Lib.hid hd1
  have HD2 := Lib.hid hd2
  clear hd1 hd2
  go_upto_region 19 with fail
  obtain ⟨x0, x1, x2, x3, x4⟩ := hX.tot
  obtain ⟨y0, y1, y2, y3, y4⟩ := hY.tot
  go_cut [135] from 128 to 135 (fun v135 wx => v135 = .bool d1 ∧ w20 = wx)
  case first =>
   by_cases h1 : M1 < 0
   ·obtain rfl : d1 = true := by rw [← HD1.out]; simp; omega
    go_wp2_with fail
    go_meet
    case rel => exact ⟨rfl, rfl⟩
   ·by_cases h2 : 256 ≤ M1
    ·obtain rfl : d1 = true := by rw [← HD1.out]; simp; omega
     go_wp2_with fail
     go_meet
     case rel => exact ⟨rfl, rfl⟩
    ·obtain rfl : d1 = false := by rw [← HD1.out]; simp; omega
     go_wp2_with fail
     go_meet
     case rel => exact ⟨rfl, rfl⟩
  case rest =>
  obtain ⟨rfl, hwx⟩ := hcut
  subst hwx
  go_upto_if 135 with fail
  go_cut [26] (fun v26 wx => v26 = .int .i64 ca ∧ w20 = wx)
  case first =>
   by_cases h1 : M1 < 0 ∨ 256 ≤ M1
   ·obtain rfl : d1 = true := by rw [← HD1.out]; exact decide_eq_true h1
    obtain rfl : ca = 18 := by rw [← HCAE.out]; exact if_pos h1
    clear h1
    go_wp2_with fail
    go_meet
    case rel => exact ⟨rfl, rfl⟩
   ·obtain rfl : d1 = false := by rw [← HD1.out]; exact decide_eq_false h1
    obtain rfl : ca = 0 := by rw [← HCAE.out]; exact if_neg h1
    clear h1
    go_wp2_with fail
    go_meet
    case rel => exact ⟨rfl, rfl⟩
  case rest =>
  obtain ⟨rfl, hwx⟩ := hcut
  subst hwx
  go_upto_region 22 with fail
  go_cut [161] from 136 to 161 (fun v161 wx => v161 = .bool d2 ∧ w20 = wx)
  case first =>
   by_cases h1 : M1 < 0
   ·obtain rfl : d2 = true := by rw [← HD2.out]; simp; omega
    go_wp2_with fail
    go_meet
    case rel => exact ⟨rfl, rfl⟩
   by_cases h2 : M2 < 0
   ·obtain rfl : d2 = true := by rw [← HD2.out]; simp; omega
    go_wp2_with fail
    go_meet
    case rel => exact ⟨rfl, rfl⟩
   by_cases h3 : 256 < M1
   ·obtain rfl : d2 = true := by rw [← HD2.out]; simp; omega
    go_wp2_with fail
    go_meet
    case rel => exact ⟨rfl, rfl⟩
   by_cases h4 : 256 < M2
   ·obtain rfl : d2 = true := by rw [← HD2.out]; simp; omega
    go_wp2_with fail
    go_meet
    case rel => exact ⟨rfl, rfl⟩
   obtain ⟨ms, hms⟩ : ∃ z, M1 + M2 = z := ⟨_, rfl⟩
   have hws : IntKind.i64.wrap (M1 + M2) = ms := by
    rw [IntWalk.i64_in _ (by omega)]
    exact hms
   by_cases h5 : 256 < ms
   ·obtain rfl : d2 = true := by rw [← HD2.out]; simp; omega
    clear hms
    go_wp2_with fail
    go_meet
    case rel => exact ⟨rfl, rfl⟩
   ·obtain rfl : d2 = false := by rw [← HD2.out]; simp; omega
    clear hms
    go_wp2_with fail
    go_meet
    case rel => exact ⟨rfl, rfl⟩
  case rest =>
  obtain ⟨rfl, hwx⟩ := hcut
  subst hwx
  go_upto_if 161 with fail
  go_cut [27] (fun v27 wx => v27 = .int .i64 cb ∧ w20 = wx)
  case first =>
   by_cases h1 : M1 < 0 ∨ M2 < 0 ∨ 256 < M1 ∨ 256 < M1 + M2
   ·obtain rfl : d2 = true := by rw [← HD2.out]; exact decide_eq_true h1
    obtain rfl : cb = 18 := by rw [← HCBE.out]; exact if_pos h1
    clear h1
    go_wp2_with fail
    go_meet
    case rel => exact ⟨rfl, rfl⟩
   ·obtain rfl : d2 = false := by rw [← HD2.out]; exact decide_eq_false h1
    obtain rfl : cb = 0 := by rw [← HCBE.out]; exact if_neg h1
    clear h1
    go_wp2_with fail
    go_meet
    case rel => exact ⟨rfl, rfl⟩
  case rest =>
  obtain ⟨rfl, hwx⟩ := hcut
  subst hwx
  have hYx := hY.far (p := ⟨w.heap.size + 1 + 1, 1, none⟩) (by dsimp only; omega) (.int .i64 3)
  clear y0 y1 y2 y3 y4
  obtain ⟨y0, y1, y2, y3, y4⟩ := hYx.tot
  go_upto_region 26 with fail
  go_upto_region 27 with fail
  have hXm := (hX.totPutM 3).far (p := ⟨w.heap.size + 1 + 1 + 1, 1, none⟩) (by dsimp only; omega) (.int .i64 3)
  have hYm := hYx.totPutM 3
  have hIm := (hI.far (p := ⟨w.heap.size + 1 + 1, 1, none⟩) (by dsimp only; omega) (.int .i64 3)).far (p := ⟨w.heap.size + 1 + 1 + 1, 1, none⟩) (by dsimp only; omega) (.int .i64 3)
  have hUm := (hU.far (p := ⟨w.heap.size + 1 + 1, 1, none⟩) (by dsimp only; omega) (.int .i64 3)).far (p := ⟨w.heap.size + 1 + 1 + 1, 1, none⟩) (by dsimp only; omega) (.int .i64 3)
  have hAm := (hA.far1 (b := w.heap.size + 1 + 1) (i := 1) (by omega) (.int .i64 3)).far1 (b := w.heap.size + 1 + 1 + 1) (i := 1) (by omega) (.int .i64 3)
  have hbm := bl_set (p := ⟨w.heap.size + 1 + 1 + 1, 1, none⟩) (bl_set (p := ⟨w.heap.size + 1 + 1, 1, none⟩) hb00 (by dsimp only; omega) (.int .i64 3)) (by dsimp only; omega) (.int .i64 3)
  clear x0 x1 x2 x3 x4 y0 y1 y2 y3 y4 hX hY hYx hI hU hA hB hb00
  generalize (w20.setCell ⟨w.heap.size + 1 + 1, 1, none⟩ (.int .i64 3)).setCell ⟨w.heap.size + 1 + 1 + 1, 1, none⟩ (.int .i64 3) = w21 at hXm hYm hIm hUm hAm hbm ⊢
  have hX := hXm
  have hY := hYm
  have hI := hIm
  have hU := hUm
  have hA := hAm
  have hb00 := hbm
  clear hXm hYm hIm hUm hAm hbm
  have hn1w : IntKind.i64.wrap ((n : Int) + 1) = (n : Int) + 1 := IntWalk.i64_in _ (by omega)
  have hmkn : ∀ wz : World, (Instr.makeSlice 73 (.int .i64 ((n : Int) + 1)) (.int .i64 ((n : Int) + 1))).run Try.prog wz = .ok (.slice (some ⟨wz.heap.size, 0, none⟩) (n + 1) (n + 1)) (wz.alloc (.cells (cellsE (List.replicate (n + 1) (0, 0))).toArray 99)) := fun wz => hmk1 wz
  have HX7 := Lib.hid hX
  have HU7 := Lib.hid hU
  have HI7 := Lib.hid hI
  have HC27 : Hid (∀ (g : Nat) wz, Calls Try.prog 37 #[.agg (totL (.slice (some ⟨ga, 0, none⟩) n n) 3 K1).toArray, .agg #[.int .u8 yk, .int .u8 (F : Int), .int .i64 yb, .int .i64 yl, .int .i64 ym, .int .i64 yc, .int .i64 pq, .string s], .agg (cells8 id).toArray, .slice (some ⟨g, 0, none⟩) (n + 1) (n + 1)] wz (RetTA 9 wz)) := fun g wz => (HA3.out _ (some ⟨g, 0, none⟩) (n + 1) (n + 1) K1 wz (by omega)).mono fun e w' h => RetT0.any h
  apply region_Z3 (n := 12) (m := 13) (f := 12) (fun x0 x1 x2 => (AnK w21 (esK (zK F (n + 1)))) (some x0) (some x1) (some x2) true) ((AnT w21) none none none) ((AnK w21 (esK (zK F (n + 1)))) none none none false) ((AnK.weak _ _ _ _)) (AnK.clo) ((AnK.start w21))
  case hm => kernel_rfl
  case hB => kernel_rfl
  case hf => rfl
  case' h =>
   refine WpX.vD 0 (some 173) ?_ rfl rfl (by kernel_rfl) (fun _ _ _ h => h) rfl (fun wz hwz => ?_) ?_
   rotate_left
   ·(refine Eq.trans (exec_load rfl (by kernel_rfl) ((HX7.out.call hwz).loadT HK1.out)) ?_; with_reducible rfl)
   simp only [Zp, Zq, Zr, Zs]
   refine WpX.vD 1 (some 174) ?_ rfl rfl (by kernel_rfl) (fun _ _ _ h => h) rfl (fun wz hwz => ?_) ?_
   rotate_left
   ·(have hz := (HU7.out.call hwz).get8; obtain ⟨⟨z0, z1, z2, z3, z4, z5, z6, z7⟩, ⟨y0, y1, y2, y3, y4, y5, y6, y7⟩, y8⟩ := hz; go_simp; try (with_reducible rfl))
   simp only [Zp, Zq, Zr, Zs]
   refine WpX.vD 2 (some 175) ?_ rfl rfl (by kernel_rfl) (fun _ _ _ h => h) rfl (fun wz hwz => ?_) ?_
   rotate_left
   ·(refine Eq.trans (exec_load rfl (by kernel_rfl) ((HI7.out.call hwz).loadId HID.out)) ?_; with_reducible rfl)
   simp only [Zp, Zq, Zr, Zs]
   refine WpX.vD 3 (some 176) ?_ rfl rfl (by kernel_rfl) (fun _ _ _ h => h) rfl (fun wz hwz => ?_) ?_
   rotate_left
   ·go_simp; try (with_reducible rfl)
   simp only [Zp, Zq, Zr, Zs]
   refine WpX.vD 4 (some 177) ?_ rfl rfl (by kernel_rfl) (fun _ _ _ h => h) rfl (fun wz hwz => ?_) ?_
   rotate_left
   ·go_simp; try (with_reducible rfl)
   simp only [Zp, Zq, Zr, Zs]
   refine WpX.twoD 5 10 (some 178) (some 28) rfl rfl rfl rfl (by kernel_rfl) (fun g : Nat => Value.slice (some ⟨g, 0, none⟩) (n + 1) (n + 1)) (fun g1 => (AnT w21) (some g1) none none) (fun g1 => (AnK w21 (esK (zK F (n + 1)))) (some g1) none none false) (Turns.val rfl (fun _ _ h => h) (fun _ => (AnK.weak _ _ _ _)) (fun _ => AnK.clo) (fun wz hS => ⟨wz.heap.size, wz.alloc (.cells (cellsE (List.replicate (n + 1) (0, 0))).toArray 99), by go_simp; try (with_reducible rfl), hS.mkA (by rw [zK_esK])⟩)) (fun x : Nat => Value.pointer (some ⟨x, 0, none⟩)) (fun x3 => (AnT w21) none none (some x3)) (fun x3 => (AnK w21 (esK (zK F (n + 1)))) none none (some x3) false) (Turns.val rfl (fun _ _ h => h) (fun _ => (AnK.weak _ _ _ _)) (fun _ => AnK.clo) (fun wz hS => ⟨wz.heap.size, wz.alloc (.cells #[.slice none 0 0, .int .i64 0, .int .u8 0, .int .u8 0, .int .u8 0, .int .u8 0, .int .u8 0, .int .u8 0, .int .u8 0, .int .u8 0, .int .u8 0, .int .u8 0, .int .u8 0, .int .u8 0, .int .u8 0, .int .u8 0, .int .u8 0, .int .u8 0] 76), by go_simp; try (with_reducible rfl), hS.mkC rfl⟩)) (fun g1 => ?rz27_8a) (fun x3 => ?rz27_8b)
   case' rz27_8a =>
    simp only [Zp, Zq, Zr, Zs]
    refine WpX.twoD 6 10 (some 179) (some 28) rfl rfl rfl rfl (by kernel_rfl) (fun q : Value × Int × List Int => Value.tuple #[.agg (totL q.1 q.2.1 q.2.2).toArray, .int .i64 9]) (fun q2 => (AnT w21) (some g1) (some q2) none) (fun q2 => (AnK w21 (esK (zK F (n + 1)))) (some g1) (some q2) none false) (Turns.call rfl (fun _ _ h => h) (fun _ => (AnK.weak _ _ _ _)) (fun _ => AnK.clo) (fun wz hS => (HC27.out g1 wz).mono fun e w' ⟨u, m, k, he, h1, h2, hb'⟩ => ⟨(u, m, k), he, hS.mkB (u, m, k) h1 h2 hb'⟩) (fun wz hS => by go_simp; try (with_reducible rfl))) (fun x : Nat => Value.pointer (some ⟨x, 0, none⟩)) (fun x3 => (AnT w21) (some g1) none (some x3)) (fun x3 => (AnK w21 (esK (zK F (n + 1)))) (some g1) none (some x3) false) (Turns.val rfl (fun _ _ h => h) (fun _ => (AnK.weak _ _ _ _)) (fun _ => AnK.clo) (fun wz hS => ⟨wz.heap.size, wz.alloc (.cells #[.slice none 0 0, .int .i64 0, .int .u8 0, .int .u8 0, .int .u8 0, .int .u8 0, .int .u8 0, .int .u8 0, .int .u8 0, .int .u8 0, .int .u8 0, .int .u8 0, .int .u8 0, .int .u8 0, .int .u8 0, .int .u8 0, .int .u8 0, .int .u8 0] 76), by go_simp; try (with_reducible rfl), hS.mkC rfl⟩)) (fun q2 => ?rz27_9a) (fun x3 => ?rz27_9b)
    case' rz27_9a =>
     simp only [Zp, Zq, Zr, Zs]
     refine WpX.vD 7 (some 172) ?_ rfl rfl (by kernel_rfl) (fun _ _ _ h => h) rfl (fun wz hwz => ?_) ?_
     rotate_left
     ·go_simp; try (with_reducible rfl)
     simp only [Zp, Zq, Zr, Zs]
     refine WpX.vD 8 (some 180) ?_ rfl rfl (by kernel_rfl) (fun _ _ _ h => h) rfl (fun wz hwz => ?_) ?_
     rotate_left
     ·go_simp; try (with_reducible rfl)
     simp only [Zp, Zq, Zr, Zs]
     refine WpX.vD 9 (some 181) ?_ rfl rfl (by kernel_rfl) (fun _ _ _ h => h) rfl (fun wz hwz => ?_) ?_
     rotate_left
     ·go_simp; try (with_reducible rfl)
     simp only [Zp, Zq, Zr, Zs]
     refine WpX.oneD 10 (some 28) rfl rfl (by kernel_rfl) (fun x : Nat => Value.pointer (some ⟨x, 0, none⟩)) (fun x3 => (AnT w21) (some g1) (some q2) (some x3)) (fun x3 => (AnK w21 (esK (zK F (n + 1)))) (some g1) (some q2) (some x3) false) (Turns.val rfl (fun _ _ h => h) (fun _ => (AnK.weak _ _ _ _)) (fun _ => AnK.clo) (fun wz hS => ⟨wz.heap.size, wz.alloc (.cells #[.slice none 0 0, .int .i64 0, .int .u8 0, .int .u8 0, .int .u8 0, .int .u8 0, .int .u8 0, .int .u8 0, .int .u8 0, .int .u8 0, .int .u8 0, .int .u8 0, .int .u8 0, .int .u8 0, .int .u8 0, .int .u8 0, .int .u8 0, .int .u8 0] 76), by go_simp; try (with_reducible rfl), hS.mkC rfl⟩)) (fun x3 => ?_)
     simp only [Zp, Zq, Zr, Zs]
     refine WpX.oneSkip 11 none rfl rfl (by kernel_rfl) ((AnT w21) (some g1) (some q2) (some x3)) ((AnK w21 (esK (zK F (n + 1)))) (some g1) (some q2) (some x3) true) (fun _ h => h) ((AnK.weak _ _ _ _)) (AnK.clo) rfl (fun wz hS => ?_) ?_
     ·(exact ⟨_, exec_store rfl (by kernel_rfl) (by kernel_rfl) (((hS.c x3 rfl).2 rfl).storeT (m := q2.2.1) z16_length (hS.b q2 rfl).2 (hS.b q2 rfl).1), hS.put (totL q2.1 q2.2.1 q2.2.2)⟩)
     simp only [Act.put]
     refine WpX.done (by kernel_rfl) (fun w22 hZ => ⟨g1, q2, x3, rfl, ?_⟩)
     ·exact hZ
    case' rz27_9b =>
     simp only [Zp, Zq, Zr, Zs]
     refine WpX.oneD 6 (some 179) rfl rfl (by kernel_rfl) (fun q : Value × Int × List Int => Value.tuple #[.agg (totL q.1 q.2.1 q.2.2).toArray, .int .i64 9]) (fun q2 => (AnT w21) (some g1) (some q2) (some x3)) (fun q2 => (AnK w21 (esK (zK F (n + 1)))) (some g1) (some q2) (some x3) false) (Turns.call rfl (fun _ _ h => h) (fun _ => (AnK.weak _ _ _ _)) (fun _ => AnK.clo) (fun wz hS => (HC27.out g1 wz).mono fun e w' ⟨u, m, k, he, h1, h2, hb'⟩ => ⟨(u, m, k), he, hS.mkB (u, m, k) h1 h2 hb'⟩) (fun wz hS => by go_simp; try (with_reducible rfl))) (fun q2 => ?_)
     simp only [Zp, Zq, Zr, Zs]
     refine WpX.vD 7 (some 172) ?_ rfl rfl (by kernel_rfl) (fun _ _ _ h => h) rfl (fun wz hwz => ?_) ?_
     rotate_left
     ·go_simp; try (with_reducible rfl)
     simp only [Zp, Zq, Zr, Zs]
     refine WpX.vD 8 (some 180) ?_ rfl rfl (by kernel_rfl) (fun _ _ _ h => h) rfl (fun wz hwz => ?_) ?_
     rotate_left
     ·go_simp; try (with_reducible rfl)
     simp only [Zp, Zq, Zr, Zs]
     refine WpX.vD 9 (some 181) ?_ rfl rfl (by kernel_rfl) (fun _ _ _ h => h) rfl (fun wz hwz => ?_) ?_
     rotate_left
     ·go_simp; try (with_reducible rfl)
     simp only [Zp, Zq, Zr, Zs]
     refine WpX.oneSkip 11 none rfl rfl (by kernel_rfl) ((AnT w21) (some g1) (some q2) (some x3)) ((AnK w21 (esK (zK F (n + 1)))) (some g1) (some q2) (some x3) true) (fun _ h => h) ((AnK.weak _ _ _ _)) (AnK.clo) rfl (fun wz hS => ?_) ?_
     ·(exact ⟨_, exec_store rfl (by kernel_rfl) (by kernel_rfl) (((hS.c x3 rfl).2 rfl).storeT (m := q2.2.1) z16_length (hS.b q2 rfl).2 (hS.b q2 rfl).1), hS.put (totL q2.1 q2.2.1 q2.2.2)⟩)
     simp only [Act.put]
     refine WpX.done (by kernel_rfl) (fun w22 hZ => ⟨g1, q2, x3, rfl, ?_⟩)
     ·exact hZ
   case' rz27_8b =>
    simp only [Zp, Zq, Zr, Zs]
    refine WpX.oneD 5 (some 178) rfl rfl (by kernel_rfl) (fun g : Nat => Value.slice (some ⟨g, 0, none⟩) (n + 1) (n + 1)) (fun g1 => (AnT w21) (some g1) none (some x3)) (fun g1 => (AnK w21 (esK (zK F (n + 1)))) (some g1) none (some x3) false) (Turns.val rfl (fun _ _ h => h) (fun _ => (AnK.weak _ _ _ _)) (fun _ => AnK.clo) (fun wz hS => ⟨wz.heap.size, wz.alloc (.cells (cellsE (List.replicate (n + 1) (0, 0))).toArray 99), by go_simp; try (with_reducible rfl), hS.mkA (by rw [zK_esK])⟩)) (fun g1 => ?_)
    simp only [Zp, Zq, Zr, Zs]
    refine WpX.oneD 6 (some 179) rfl rfl (by kernel_rfl) (fun q : Value × Int × List Int => Value.tuple #[.agg (totL q.1 q.2.1 q.2.2).toArray, .int .i64 9]) (fun q2 => (AnT w21) (some g1) (some q2) (some x3)) (fun q2 => (AnK w21 (esK (zK F (n + 1)))) (some g1) (some q2) (some x3) false) (Turns.call rfl (fun _ _ h => h) (fun _ => (AnK.weak _ _ _ _)) (fun _ => AnK.clo) (fun wz hS => (HC27.out g1 wz).mono fun e w' ⟨u, m, k, he, h1, h2, hb'⟩ => ⟨(u, m, k), he, hS.mkB (u, m, k) h1 h2 hb'⟩) (fun wz hS => by go_simp; try (with_reducible rfl))) (fun q2 => ?_)
    simp only [Zp, Zq, Zr, Zs]
    refine WpX.vD 7 (some 172) ?_ rfl rfl (by kernel_rfl) (fun _ _ _ h => h) rfl (fun wz hwz => ?_) ?_
    rotate_left
    ·go_simp; try (with_reducible rfl)
    simp only [Zp, Zq, Zr, Zs]
    refine WpX.vD 8 (some 180) ?_ rfl rfl (by kernel_rfl) (fun _ _ _ h => h) rfl (fun wz hwz => ?_) ?_
    rotate_left
    ·go_simp; try (with_reducible rfl)
    simp only [Zp, Zq, Zr, Zs]
    refine WpX.vD 9 (some 181) ?_ rfl rfl (by kernel_rfl) (fun _ _ _ h => h) rfl (fun wz hwz => ?_) ?_
    rotate_left
    ·go_simp; try (with_reducible rfl)
    simp only [Zp, Zq, Zr, Zs]
    refine WpX.oneSkip 11 none rfl rfl (by kernel_rfl) ((AnT w21) (some g1) (some q2) (some x3)) ((AnK w21 (esK (zK F (n + 1)))) (some g1) (some q2) (some x3) true) (fun _ h => h) ((AnK.weak _ _ _ _)) (AnK.clo) rfl (fun wz hS => ?_) ?_
    ·(exact ⟨_, exec_store rfl (by kernel_rfl) (by kernel_rfl) (((hS.c x3 rfl).2 rfl).storeT (m := q2.2.1) z16_length (hS.b q2 rfl).2 (hS.b q2 rfl).1), hS.put (totL q2.1 q2.2.1 q2.2.2)⟩)
    simp only [Act.put]
    refine WpX.done (by kernel_rfl) (fun w22 hZ => ⟨g1, q2, x3, rfl, ?_⟩)
    ·exact hZ
  intro g1 q2 x3 w22 hZ
  (try simp only [List.drop_succ_cons]); (try simp only [List.drop_zero]); (try simp only [Nat.reduceSub]); (try simp only [List.take_succ_cons]); (try simp only [List.take_zero])
  have hb22 := hZ.t
  replace hb00 := bl_call hb00 (Nat.le_refl _) hb22
  replace hX := hX.call hb22
  replace hY := hY.call hb22
  replace hI := hI.call hb22
  replace hU := hU.call hb22
  replace hA := hA.call hb22
  clear hZ hb22 HX7 HU7 HI7 HC27
  have hgl22 := hY.lt
  have hbA := (Below.refl w22.heap.size w22).alloc (Nat.le_refl _) (.cells (cellsE (List.replicate (n + 1) (0, 0))).toArray 99)
  have hB := BlkE.new w22 (esK (zK F (n + 1))) (cellsE (List.replicate (n + 1) (0, 0))).toArray (by rw [zK_esK])
  replace hb00 := bl_call hb00 (Nat.le_refl _) hbA
  replace hX := hX.call hbA
  replace hY := hY.call hbA
  replace hI := hI.call hbA
  replace hU := hU.call hbA
  replace hA := hA.call hbA
  clear hbA
  have HG22 := Lib.hid hgl22
  clear hgl22
  go_upto_region 28 with fail
  obtain ⟨y0, y1, y2, y3, y4⟩ := hY.tot
  go_upto_region 29 with fail
  clear y0 y1 y2 y3 y4
  have hy22 := HG22.out
  clear HG22
  have hYm := hY.totPutS (.slice (some ⟨w22.heap.size, 0, none⟩) (n + 1) (n + 1))
  have hXm := hX.far (p := ⟨w.heap.size + 1 + 1 + 1, 0, none⟩) (by dsimp only; omega) (.slice (some ⟨w22.heap.size, 0, none⟩) (n + 1) (n + 1))
  have hUm := hU.far (p := ⟨w.heap.size + 1 + 1 + 1, 0, none⟩) (by dsimp only; omega) (.slice (some ⟨w22.heap.size, 0, none⟩) (n + 1) (n + 1))
  have hbm := bl_set (p := ⟨w.heap.size + 1 + 1 + 1, 0, none⟩) hb00 (by dsimp only; omega) (.slice (some ⟨w22.heap.size, 0, none⟩) (n + 1) (n + 1))
  have hAm := hA.far1 (b := w.heap.size + 1 + 1 + 1) (i := 0) (by omega) (.slice (some ⟨w22.heap.size, 0, none⟩) (n + 1) (n + 1))
  have hBm := hB.far1 (b := w.heap.size + 1 + 1 + 1) (i := 0) (by omega) (.slice (some ⟨w22.heap.size, 0, none⟩) (n + 1) (n + 1))
  clear hX hY hI hU hA hB hb00
  generalize (w22.alloc (.cells (cellsE (List.replicate (n + 1) (0, 0))).toArray 99)).setCell ⟨w.heap.size + 1 + 1 + 1, 0, none⟩ (.slice (some ⟨w22.heap.size, 0, none⟩) (n + 1) (n + 1)) = w23 at hXm hYm hUm hAm hBm hbm ⊢
  have hX := hXm
  have hY := hYm
  have hU := hUm
  have hA := hAm
  have hB := hBm
  have hb00 := hbm
  clear hXm hYm hUm hAm hBm hbm
  have hn10 : n + 1 ≤ 1000000 := by
   have := HNO.out
   omega
  have HA8 := Lib.hid hA
  have HB8 := Lib.hid hB
  generalize w22.heap.size = gc at hY hB HB8 hy22 ⊢
  have HC29 : Hid (∀ wz, Below w23.heap.size w23 wz → Calls Try.prog 27 #[.agg (totL (.slice (some ⟨ga, 0, none⟩) n n) 3 K1).toArray, .agg #[.int .u8 yk, .int .u8 (F : Int), .int .i64 yb, .int .i64 yl, .int .i64 ym, .int .i64 yc, .int .i64 pq, .string s], .agg (totL (.slice (some ⟨gc, 0, none⟩) (n + 1) (n + 1)) 3 K2).toArray] wz (RetT0 9 wz)) := fun wz h1 =>
   HA4.out _ _ (esK (zK F n)) (esK (zK F (n + 1))) K1 K2 wz (BlkE.slNn (HA8.out.call h1) (zK_length F n) hn9).toE (BlkE.slNn (HB8.out.call h1) (zK_length F (n + 1)) hn10).toE (by rw [zK_esK, zK_esK, List.length_replicate, List.length_replicate]; omega)
  obtain ⟨⟨U0, U1, U2, U3, U4, U5, U6, U7⟩, ⟨U8, U9, U10, U11, U12, U13, U14, U15⟩, U16⟩ := hU.get8
  refine wp_region_lit ?_
  refine wpList_valD (some 187) rfl rfl (exec_load rfl (by kernel_rfl) (hX.loadT HK1.out)) ?_
  simp only [Zp, Zq, Zr, Zs]
  refine wpList_valD (some 188) rfl rfl (by (go_simp; first | with_reducible rfl | exact ⟨rfl, rfl⟩ | (trace_state; fail))) ?_
  simp only [Zp, Zq, Zr, Zs]
  refine wpList_valD (some 189) rfl rfl (exec_load rfl (by kernel_rfl) (hY.loadT HK2.out)) ?_
  simp only [Zp, Zq, Zr, Zs]
  refine wpList_callD (some 190) rfl rfl 27 _ ?_ (HC29.out w23 (Below.refl _ _)) ?_
  ·go_simp; try (with_reducible rfl)
  rintro e w24 ⟨rfl, hb24⟩
  refine ⟨_, rfl, ?_⟩
  simp only [Zp, Zq, Zr, Zs]
  clear U0 U1 U2 U3 U4 U5 U6 U7 U8 U9 U10 U11 U12 U13 U14 U15 U16
  replace hb00 := bl_call hb00 (Nat.le_refl _) hb24
  replace hX := hX.call hb24
  replace hY := hY.call hb24
  replace hU := hU.call hb24
  replace hA := hA.call hb24
  replace hB := hB.call hb24
  clear hb24
  refine wpList_valD (some 186) rfl rfl (by (go_simp; first | with_reducible rfl | exact ⟨rfl, rfl⟩ | (trace_state; fail))) ?_
  simp only [Zp, Zq, Zr, Zs]
  refine wpList_valD (some 191) rfl rfl (by (go_simp; first | with_reducible rfl | exact ⟨rfl, rfl⟩ | (trace_state; fail))) ?_
  simp only [Zp, Zq, Zr, Zs]
  refine wpList_valD (some 192) rfl rfl (by (go_simp; first | with_reducible rfl | exact ⟨rfl, rfl⟩ | (trace_state; fail))) ?_
  simp only [Zp, Zq, Zr, Zs]
  refine wpList_valD (some 30) rfl rfl (by (skip; go_simp; first | with_reducible rfl | exact ⟨rfl, rfl⟩ | (trace_state; fail))) ?_
  simp only [Zp, Zq, Zr, Zs]
  have hN := Vs.new w24 (totL (.slice none 0 0) 0 z16) #[.slice none 0 0, .int .i64 0, .int .u8 0, .int .u8 0, .int .u8 0, .int .u8 0, .int .u8 0, .int .u8 0, .int .u8 0, .int .u8 0, .int .u8 0, .int .u8 0, .int .u8 0, .int .u8 0, .int .u8 0, .int .u8 0, .int .u8 0, .int .u8 0] 76 rfl
  have hbA := (Below.refl w24.heap.size w24).alloc (Nat.le_refl _) (.cells #[.slice none 0 0, .int .i64 0, .int .u8 0, .int .u8 0, .int .u8 0, .int .u8 0, .int .u8 0, .int .u8 0, .int .u8 0, .int .u8 0, .int .u8 0, .int .u8 0, .int .u8 0, .int .u8 0, .int .u8 0, .int .u8 0, .int .u8 0, .int .u8 0] 76)
  have hst := hN.storeT (k := z16) (v := .slice none 0 0) (m := 0) z16_length z16_length rfl
  refine wpList_skipD rfl rfl (exec_store rfl (by kernel_rfl) (by kernel_rfl) hst) ?_
  refine wpList_valD (some 31) rfl rfl (by (go_simp; first | with_reducible rfl | exact ⟨rfl, rfl⟩ | (trace_state; fail))) ?_
  simp only [Zp, Zq, Zr, Zs]
  have hbC := bl_setCells hbA (Nat.le_refl _) 0 (totL (.slice none 0 0) 0 z16)
  replace hb00 := bl_call hb00 (Nat.le_refl _) hbC
  replace hX := hX.call hbC
  replace hY := hY.call hbC
  replace hU := hU.call hbC
  replace hA := hA.call hbC
  replace hB := hB.call hbC
  clear hst hbA hbC hN HA8 HB8 HC29
  generalize (w24.alloc (.cells #[.slice none 0 0, .int .i64 0, .int .u8 0, .int .u8 0, .int .u8 0, .int .u8 0, .int .u8 0, .int .u8 0, .int .u8 0, .int .u8 0, .int .u8 0, .int .u8 0, .int .u8 0, .int .u8 0, .int .u8 0, .int .u8 0, .int .u8 0, .int .u8 0] 76)).setCells w24.heap.size 0 (totL (.slice none 0 0) 0 z16) = w25 at hX hY hU hA hB hb00 ⊢
  go_upto_region 30 with fail
  refine wp_region_lit ?_
  refine wpList_valD (some 193) rfl rfl (by (go_simp; first | with_reducible rfl | exact ⟨rfl, rfl⟩ | (trace_state; fail))) ?_
  simp only [Zp, Zq, Zr, Zs]
  refine wpList_valD (some 194) rfl rfl (exec_load rfl (by kernel_rfl) (hX.loadTC HK1.out)) ?_
  simp only [Zp, Zq, Zr, Zs]
  refine wpList_valD (some 195) rfl rfl (by (go_simp; first | with_reducible rfl | exact ⟨rfl, rfl⟩ | (trace_state; fail))) ?_
  simp only [Zp, Zq, Zr, Zs]
  refine wpList_skipD rfl rfl (exec_store rfl (by kernel_rfl) (by kernel_rfl) (hY.storeTC HK2.out HK1.out)) ?_
  have hEx := exc_setCells (S := fun q => q = w.heap.size + 1 + 1 + 1) (B := w25.heap.size) (w.heap.size + 1 + 1 + 1) rfl (cells8 K1) 2 w25 (exc_of (Below.refl _ _))
  have hYm := hY.setTC HK2.out HK1.out
  have hXm := hX.exc (S := fun q => q = w.heap.size + 1 + 1 + 1) (fun e => by
   have e2 : w.heap.size + 1 + 1 = w.heap.size + 1 + 1 + 1 := e
   omega) hEx
  have hUm := hU.exc (S := fun q => q = w.heap.size + 1 + 1 + 1) (fun e => by
   have e2 : ub = w.heap.size + 1 + 1 + 1 := e
   omega) hEx
  have hAm := hA.farC (b := w.heap.size + 1 + 1 + 1) (by omega) 2 (cells8 K1)
  have hBm := hB.farC (b := w.heap.size + 1 + 1 + 1) (by omega) 2 (cells8 K1)
  have hbm := bl_setCells hb00 (b := w.heap.size + 1 + 1 + 1) (by omega) 2 (cells8 K1)
  clear hX hY hU hA hB hb00 hEx
  go_upto_region 31 with fail
  generalize w25.setCells (w.heap.size + 1 + 1 + 1) 2 (cells8 K1) = w26 at hXm hYm hUm hAm hBm hbm ⊢
  have hX := hXm
  have hY := hYm
  have hU := hUm
  have hb00 := hbm
  have HC31 : Hid (∀ wz, Below w26.heap.size w26 wz → Calls Try.prog 38 #[.agg #[.int .u8 yk, .int .u8 (F : Int), .int .i64 yb, .int .i64 yl, .int .i64 ym, .int .i64 yc, .int .i64 pq, .string s], .agg (totL (.slice (some ⟨ga, 0, none⟩) n n) 3 K1).toArray, .agg (totL (.slice (some ⟨gc, 0, none⟩) (n + 1) (n + 1)) 3 K1).toArray] wz (RetErr 9 wz)) := fun wz h1 =>
   HA5.out _ _ (esK (zK F n)) (esK (zK F (n + 1))) K1 wz HK1.out (BlkE.slNn (hAm.call h1) (zK_length F n) hn9).toE (BlkE.slNn (hBm.call h1) (zK_length F (n + 1)) hn10).toE (by rw [zK_esK, zK_esK, List.length_replicate, List.length_replicate]; omega)
  clear hXm hYm hUm hbm
  obtain ⟨⟨U0, U1, U2, U3, U4, U5, U6, U7⟩, ⟨U8, U9, U10, U11, U12, U13, U14, U15⟩, U16⟩ := hU.get8
  refine wp_region_lit ?_
  refine wpList_valD (some 197) rfl rfl (by (go_simp; first | with_reducible rfl | exact ⟨rfl, rfl⟩ | (trace_state; fail))) ?_
  simp only [Zp, Zq, Zr, Zs]
  refine wpList_valD (some 198) rfl rfl (exec_load rfl (by kernel_rfl) (hX.loadT HK1.out)) ?_
  simp only [Zp, Zq, Zr, Zs]
  refine wpList_valD (some 199) rfl rfl (exec_load rfl (by kernel_rfl) (hY.loadT HK1.out)) ?_
  simp only [Zp, Zq, Zr, Zs]
  refine wpList_callD (some 200) rfl rfl 38 _ ?_ (HC31.out w26 (Below.refl _ _)) ?_
  ·go_simp; try (with_reducible rfl)
  rintro e w27 ⟨rfl, hb27⟩
  refine ⟨_, rfl, ?_⟩
  simp only [Zp, Zq, Zr, Zs]
  clear U0 U1 U2 U3 U4 U5 U6 U7 U8 U9 U10 U11 U12 U13 U14 U15 U16
  replace hb00 := bl_call hb00 (Nat.le_refl _) hb27
  replace hX := hX.call hb27
  replace hY := hY.call hb27
  replace hU := hU.call hb27
  clear hb27
  refine wpList_valD (some 196) rfl rfl (by (go_simp; first | with_reducible rfl | exact ⟨rfl, rfl⟩ | (trace_state; fail))) ?_
  simp only [Zp, Zq, Zr, Zs]
  refine wpList_valD (some 201) rfl rfl (by (go_simp; first | with_reducible rfl | exact ⟨rfl, rfl⟩ | (trace_state; fail))) ?_
  simp only [Zp, Zq, Zr, Zs]
  refine wpList_valD (some 202) rfl rfl (by (go_simp; first | with_reducible rfl | exact ⟨rfl, rfl⟩ | (trace_state; fail))) ?_
  simp only [Zp, Zq, Zr, Zs]
  refine wpList_valD (some 32) rfl rfl (by (go_simp; first | with_reducible rfl | exact ⟨rfl, rfl⟩ | (trace_state; fail))) ?_
  simp only [Zp, Zq, Zr, Zs]
  refine wpList_valD (some 33) rfl rfl (by (go_simp; first | with_reducible rfl | exact ⟨rfl, rfl⟩ | (trace_state; fail))) ?_
  simp only [Zp, Zq, Zr, Zs]
  go_wp2_with fail
  go_ret
  exact ⟨rfl, hb00⟩

end Go.Proofs.Ytbakkmfjamcbfaa

namespace Go.Proofs.Ytbakkmfjamcbfaa
open Go.RowKit Go.Joins Go.ChangeShapes Go.WideShapes Go.Deep
set_option linter.unusedVariables false
set_option maxRecDepth 100000

section
variable {H : Type} {enc : TypeId × Value → H} {W : World} {base : Nat} {sp : Nat → Bool} {hd : Bool}

theorem wf_i64 {n : Int} (h : (Lit.int .i64 n).wf = true) : -9223372036854775808 ≤ n ∧ n ≤ 9223372036854775807 := by
 simpa [Lit.wf, IntKind.min, IntKind.max, IntKind.signed, IntKind.bits] using h
theorem okWide_array {P : Program} {w : World} {r : Reach} {b0 : Nat} {t e : TypeId} {n : Nat} {v : Value} (ht : P.underlying t = some (.array n e)) (h : Value.okWide P w r b0 t v) : ∃ cs, v = .agg cs ∧ cs.size = P.cellsOf t := by
 simp only [Value.okWide, ht] at h
 obtain ⟨cs, h1, h2, _⟩ := h
 exact ⟨cs, h1, h2⟩

theorem open_id {r : Reach} {b0 : Nat} {v : Value} {d : DataW H} {ps : List MemPlace} (hval : Value.okWide Try.prog W r b0 34 v) (h : DataW.Trod enc Try.prog W base sp hd 34 v d ps) :
  ∃ k : List Int, v = .agg (cells8 k).toArray ∧ k.length = 16 ∧ B8 k := by
 obtain ⟨cs, rfl, hsz⟩ := okWide_array Try.underlying34 hval
 obtain ⟨l⟩ := cs
 obtain ⟨fuel, hf⟩ := h
 have hf2 : DataW.trod enc Try.prog W base sp hd fuel 34 l = some (d, ps) := hf
 obtain ⟨k, rfl, h1, h2⟩ := trod_b16 Try.underlying34 (by kernel_rfl) hf2
 exact ⟨k, rfl, h1, h2⟩

theorem open_total {r : Reach} {b0 : Nat} {v : Value} {d : DataW H} {ps : List MemPlace} (hval : Value.okWide Try.prog W r b0 76 v) (h : DataW.Trod enc Try.prog W base sp hd 76 v d ps) :
  ∃ (u : Value) (es : List E) (m : Int) (k : List Int), v = .agg (totL u m k).toArray ∧ SlE W W.heap.size u es ∧ k.length = 16 ∧ B8 k ∧ -9223372036854775808 ≤ m ∧ m ≤ 9223372036854775807 := by
 obtain ⟨cs, rfl, hsz⟩ := okWide_struct Try.underlying76 hval
 obtain ⟨cs⟩ := cs
 have hlen : cs.length = 18 := hsz.trans (by kernel_rfl)
 obtain ⟨fuel, hf⟩ := h
 obtain ⟨ys, n, _, _, _, hyl, hg⟩ := DataW.trod_struct Try.underlying76 hf
 have hy : ∀ j, j < 3 → ys[j]? = some (ys.getD j (.lit (.bool false), [])) := by
  intro j hj
  have : j < ys.length := by rw [hyl]; exact hj
  rw [List.getD_eq_getElem?_getD, List.getElem?_eq_getElem this]
  rfl
 have g0 := (hg 0 _ rfl).trans (hy 0 (by decide))
 have g1 := (hg 1 _ rfl).trans (hy 1 (by decide))
 have g2 := (hg 2 _ rfl).trans (hy 2 (by decide))
 have q0 : Try.prog.cellsOf 73 = 1 := by kernel_rfl
 have q1 : Try.prog.cellsOf 3 = 1 := by kernel_rfl
 have q2 : Try.prog.cellsOf 74 = 16 := by kernel_rfl
 match cs, hlen with
 | c0 :: c1 :: rest, hlen =>
  have hrl : rest.length = 16 := by simpa using hlen
  have e0 : DataW.trod enc Try.prog W base sp hd n 73 [c0] = some (ys.getD 0 (.lit (.bool false), [])) := by
   have h1 : DataW.trod enc Try.prog W base sp hd n 73 (((c0 :: c1 :: rest).drop 0).take (Try.prog.cellsOf 73)) = some (ys.getD 0 (.lit (.bool false), [])) := g0
   rw [q0] at h1
   exact h1
  have e1 : DataW.trod enc Try.prog W base sp hd n 3 [c1] = some (ys.getD 1 (.lit (.bool false), [])) := by
   have h1 : DataW.trod enc Try.prog W base sp hd n 3 (((c0 :: c1 :: rest).drop 1).take (Try.prog.cellsOf 3)) = some (ys.getD 1 (.lit (.bool false), [])) := g1
   rw [q1] at h1
   exact h1
  have e2 : DataW.trod enc Try.prog W base sp hd n 74 rest = some (ys.getD 2 (.lit (.bool false), [])) := by
   have h1 : DataW.trod enc Try.prog W base sp hd n 74 (((c0 :: c1 :: rest).drop 2).take (Try.prog.cellsOf 74)) = some (ys.getD 2 (.lit (.bool false), [])) := g2
   rw [q2] at h1
   have h2 : ((c0 :: c1 :: rest).drop 2).take 16 = rest := by
    rw [List.drop_succ_cons, List.drop_succ_cons, List.drop_zero, List.take_of_length_le (by omega)]
   rw [h2] at h1
   exact h1
  obtain ⟨es, hes⟩ := open_elemsS e0
  obtain ⟨m, em, _, wm⟩ := DataW.trod_int Try.underlying3 e1
  obtain ⟨k, rfl, hk, hk8⟩ := trod_b16 Try.underlying74 q2 e2
  obtain rfl : c1 = .int .i64 m := (List.cons.inj em).1
  have hw := wf_i64 wm
  exact ⟨c0, es, m, k, rfl, hes, hk, hk8, hw.1, hw.2⟩
end

end Go.Proofs.Ytbakkmfjamcbfaa

namespace Go.Proofs.Ytbakkmfjamcbfaa
open Go.RowKit Go.Joins Go.ChangeShapes Go.WideShapes Go.Deep
set_option linter.unusedVariables false
set_option maxRecDepth 100000

section
variable {H : Type} {enc : TypeId × Value → H} {W : World} {base : Nat} {sp : Nat → Bool} {hd : Bool}

theorem open_task {r : Reach} {b0 : Nat} {v : Value} {d : DataW H} {ps : List MemPlace} (hval : Value.okWide Try.prog W r b0 62 v) (h : DataW.Trod enc Try.prog W base sp hd 62 v d ps) :
  ∃ x : RawT, v = x.val := by
 obtain ⟨cs, rfl, hsz⟩ := okWide_struct Try.underlying62 hval
 obtain ⟨l⟩ := cs
 have hl : l.length = 8 := hsz.trans (by kernel_rfl)
 obtain ⟨fuel, hf⟩ := h
 obtain ⟨ys, n, _, _, _, hyl, hg⟩ := DataW.trod_struct Try.underlying62 hf
 match l, hl with
 | [a0, a1, a2, a3, a4, a5, a6, a7], _ =>
  have hy : ∀ j, j < 3 → ys[j]? = some (ys.getD j (.lit (.bool false), [])) := by
   intro j hj
   have : j < ys.length := by rw [hyl]; exact hj
   rw [List.getD_eq_getElem?_getD, List.getElem?_eq_getElem this]
   rfl
  have g0 := (hg 0 _ rfl).trans (hy 0 (by decide))
  have g1 := (hg 1 _ rfl).trans (hy 1 (by decide))
  have g2 := (hg 2 _ rfl).trans (hy 2 (by decide))
  have c0 : DataW.trod enc Try.prog W base sp hd n 60 [a0, a1, a2, a3, a4, a5] = some (ys.getD 0 (.lit (.bool false), [])) := g0
  have c1 : DataW.trod enc Try.prog W base sp hd n 3 [a6] = some (ys.getD 1 (.lit (.bool false), [])) := g1
  have c2 : DataW.trod enc Try.prog W base sp hd n 9 [a7] = some (ys.getD 2 (.lit (.bool false), [])) := g2
  obtain ⟨zs, m, _, _, _, hzl, hz⟩ := DataW.trod_struct Try.underlying60 c0
  have hy6 : ∀ j, j < 6 → zs[j]? = some (zs.getD j (.lit (.bool false), [])) := by
   intro j hj
   have : j < zs.length := by rw [hzl]; exact hj
   rw [List.getD_eq_getElem?_getD, List.getElem?_eq_getElem this]
   rfl
  have d0 := (hz 0 _ rfl).trans (hy6 0 (by decide))
  have d1 := (hz 1 _ rfl).trans (hy6 1 (by decide))
  have d2 := (hz 2 _ rfl).trans (hy6 2 (by decide))
  have d3 := (hz 3 _ rfl).trans (hy6 3 (by decide))
  have d4 := (hz 4 _ rfl).trans (hy6 4 (by decide))
  have d5 := (hz 5 _ rfl).trans (hy6 5 (by decide))
  obtain ⟨k, ek, _⟩ := DataW.trod_int Try.underlying57 d0
  obtain ⟨f, ef, _⟩ := DataW.trod_int Try.underlying58 d1
  obtain ⟨b, eb, _⟩ := DataW.trod_int Try.underlying3 d2
  obtain ⟨l, el, _⟩ := DataW.trod_int Try.underlying3 d3
  obtain ⟨m', em, _⟩ := DataW.trod_int Try.underlying3 d4
  obtain ⟨c, ec, _⟩ := DataW.trod_int Try.underlying3 d5
  obtain ⟨p, ep, _⟩ := DataW.trod_int Try.underlying3 c1
  obtain ⟨s, es, _⟩ := DataW.trod_string Try.underlying9 c2
  have e0 : a0 = .int .u8 k := (List.cons.inj ek).1
  have e1 : a1 = .int .u8 f := (List.cons.inj ef).1
  have e2 : a2 = .int .i64 b := (List.cons.inj eb).1
  have e3 : a3 = .int .i64 l := (List.cons.inj el).1
  have e4 : a4 = .int .i64 m' := (List.cons.inj em).1
  have e5 : a5 = .int .i64 c := (List.cons.inj ec).1
  have e6 : a6 = .int .i64 p := (List.cons.inj ep).1
  have e7 : a7 = .string s := (List.cons.inj es).1
  subst e0 e1 e2 e3 e4 e5 e6 e7
  exact ⟨⟨⟨k, f, b, l, m', c⟩, p, s⟩, rfl⟩
end

end Go.Proofs.Ytbakkmfjamcbfaa
