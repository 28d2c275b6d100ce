/-
  WALK: circuit.Decode.
-/
/-
  WALKS: circuit.number of whatever limbs; circuit.Truncate.
-/
/-
  WALK: the reference's Truncate.
-/
import Derived.Test.YtiphahbeedeebaaMaq
import Derived.Test.YtiphahbeedeebaaMao
namespace Go.Proofs.Ytiphahbeedeebaa
open Go.RowKit Fm
set_option linter.unusedVariables false
set_option maxRecDepth 100000

/-- no slice and a code come back -/
def RetNil (n : Int) (w : World) (e : Ending) (w' : World) : Prop := e = .returned (.tuple #[.slice none 0 0, .int .i64 n]) ∧ Below w.heap.size w w'

set_option maxHeartbeats 1000000 in
theorem circuit_Decode_no (x : Raw) (n : Int) (hn : n ≠ 0) (HC : ∀ wz, Calls Try.prog 59 #[x.val] wz (RetC n wz)) (vs : Value) (k : Int) (w : World) :
    Calls Try.prog 48 #[x.val, vs, .int .i64 k] w (RetNil n w) := by
  have HC := Lib.hid HC
  obtain ⟨xk, xf, xb, xl, xm, xc⟩ := x
  unfold Raw.val at HC ⊢
  dsimp only at HC ⊢
  have hn1 : (n == 0) = false := by simpa using hn
  have hn2 : (n != 0) = true := by simpa using hn
  have hb00 : Below w.heap.size w w := Below.refl _ _
  go_enter Try.func48, Try.ntmps48
  go_upto_region 1 with fail
  have hx := Vs.new w [.int .u8 xk, .int .u8 xf, .int .i64 xb, .int .i64 xl, .int .i64 xm, .int .i64 xc] #[.int .u8 xk, .int .u8 xf, .int .i64 xb, .int .i64 xl, .int .i64 xm, .int .i64 xc] 60 rfl
  have hbA : Below w.heap.size w (w.alloc (.cells #[.int .u8 xk, .int .u8 xf, .int .i64 xb, .int .i64 xl, .int .i64 xm, .int .i64 xc] 60)) := by repeat (first | exact Below.refl _ _ | with_reducible assumption | (refine bl_alloc ?_ (Nat.le_refl _) _))
  replace hb00 := bl_call hb00 (Nat.le_refl _) hbA
  clear hbA
  generalize w.alloc (.cells #[.int .u8 xk, .int .u8 xf, .int .i64 xb, .int .i64 xl, .int .i64 xm, .int .i64 xc] 60) = w1 at hb00 hx ⊢
  obtain ⟨⟨x0, x1, x2, x3, x4, x5⟩, ⟨x6, x7, x8, x9, x10, x11⟩, x12⟩ := hx.get6
  go_wp2_with (first
    | (go_at_call 59; refine (HC.out _).mono ?_; rintro e w2 ⟨rfl, hb2⟩; replace hb00 := bl_call hb00 (Nat.le_refl _) hb2; replace hx := hx.call hb2))
  go_ret2
  exact ⟨rfl, hb00⟩

/-- a sum that can't be -/
def decBad (most : Nat) (k : Int) (e : E) : Bool := e.2 != 0 || decide (k * most < e.1)
/-- what Decode says of sums -/
def decN (y : CK) (l : List E) (k : Int) : Int := if l.length = y.nout then (if k < 0 ∨ 256 < k then 6 else if l.any (decBad y.most k) then 6 else 0) else 9
def RetDec (y : CK) (l : List E) (k : Int) (w : World) (e : Ending) (w' : World) : Prop :=
  (decN y l k ≠ 0 ∧ RetNil (decN y l k) w e w') ∨ (decN y l k = 0 ∧ ∃ v, e = .returned (.tuple #[v, .int .i64 0]) ∧ SlU w' w'.heap.size v (l.map (·.1)) ∧ Below w.heap.size w w')

theorem CK.most_le {y : CK} (h : y.ok) : y.most ≤ 4294967296 := by
  cases y with
  | sum b => show 2 ^ b - 1 ≤ 4294967296; have := pow32 h.2; omega
  | vec b l c => show 2 ^ b - 1 ≤ 4294967296; have := pow32 h.1.2; omega
  | count => show 1 ≤ 4294967296; omega
  | hist l c => show 1 ≤ 4294967296; omega
  | multi l m c => show 1 ≤ 4294967296; omega

theorem Pm_ge {f : Nat} (hf : IsF f) : (1152921504606846976 : Int) ≤ ((Pm f : Nat) : Int) := by
  rcases hf.or with rfl | rfl <;> decide

theorem any_take {α : Type} {p : α → Bool} {l : List α} {q : Nat} {e : α} (h : l[q]? = some e) (ha : (l.take q).any p = false) (he : p e = false) : (l.take (q + 1)).any p = false := by
  rw [List.take_add_one, h, List.any_append, ha]
  simp [he]

set_option maxHeartbeats 4000000 in
theorem circuit_Decode {f : Nat} (hf : IsF f) (y : CK) (hy : y.ok) (hcalls : ¬ 511 < y.calls) (vs : Value) (l : List E) (k : Int) (w : World) (hl : SlE w w.heap.size vs l) (hl70 : l.length ≤ 70) :
    Calls Try.prog 48 #[y.val f, vs, .int .i64 k] w (RetDec y l k w) := by
  have HC : Hid (∀ wz, Calls Try.prog 59 #[y.val f] wz (RetC 0 wz)) := by
    intro wz
    have h := circuit_Check_ok hf y hy wz
    rwa [CK.code_ok hcalls] at h
  have HO := Lib.hid (fun wz => circuit_Out f y hy wz)
  have HM := Lib.hid (fun wz => circuit_Most f y hy wz)
  have hmo := CK.most_le hy
  obtain ⟨⟨A, c, rfl, hlc, hcm, hA⟩, hok⟩ := hl
  obtain ⟨nout, hno⟩ : ∃ n, y.nout = n := ⟨_, rfl⟩
  obtain ⟨mo, hmos⟩ : ∃ n, y.most = n := ⟨_, rfl⟩
  rw [hno] at HO
  rw [hmos] at HM hmo
  have HNO := Lib.hid hno
  have HMO := Lib.hid hmos
  unfold CK.val at HC HO HM ⊢
  have hfb0 : (1 : Int) ≤ (f : Int) := by rcases hf.or with rfl | rfl <;> omega
  have hfb1 : (f : Int) ≤ 2 := by rcases hf.or with rfl | rfl <;> omega
  obtain ⟨K, hK⟩ : ∃ K : Int, ((y.k : Nat) : Int) = K := ⟨_, rfl⟩
  obtain ⟨B, hB⟩ : ∃ K : Int, ((y.b : Nat) : Int) = K := ⟨_, rfl⟩
  obtain ⟨N, hN⟩ : ∃ K : Int, ((y.l : Nat) : Int) = K := ⟨_, rfl⟩
  obtain ⟨M, hM⟩ : ∃ K : Int, ((y.m : Nat) : Int) = K := ⟨_, rfl⟩
  obtain ⟨C, hC⟩ : ∃ K : Int, ((y.c : Nat) : Int) = K := ⟨_, rfl⟩
  rw [hK, hB, hN, hM, hC] at HC HO HM ⊢
  clear hK hB hN hM hC hno hmos hcalls hy
  have hb00 : Below w.heap.size w w := Below.refl _ _
  go_enter Try.func48, Try.ntmps48
  go_upto_region 1 with fail
  have hx := Vs.new w [.int .u8 K, .int .u8 f, .int .i64 B, .int .i64 N, .int .i64 M, .int .i64 C] #[.int .u8 K, .int .u8 f, .int .i64 B, .int .i64 N, .int .i64 M, .int .i64 C] 60 rfl
  have hbA : Below w.heap.size w (w.alloc (.cells #[.int .u8 K, .int .u8 f, .int .i64 B, .int .i64 N, .int .i64 M, .int .i64 C] 60)) := by repeat (first | exact Below.refl _ _ | with_reducible assumption | (refine bl_alloc ?_ (Nat.le_refl _) _))
  replace hb00 := bl_call hb00 (Nat.le_refl _) hbA
  clear hbA
  generalize w.alloc (.cells #[.int .u8 K, .int .u8 f, .int .i64 B, .int .i64 N, .int .i64 M, .int .i64 C] 60) = w1 at hb00 hx ⊢
  obtain ⟨⟨x0, x1, x2, x3, x4, x5⟩, ⟨x6, x7, x8, x9, x10, x11⟩, x12⟩ := hx.get6
  have hxl : w.heap.size < w1.heap.size := hx.lt
  by_cases hn : l.length = nout
  rotate_left
  · have HD : Hid (decN y l k = 9) := by
      show decN y l k = 9
      unfold decN
      rw [HNO.out, if_neg hn]
    go_wp2_with (first
      | (go_at_call 59; refine (HC.out _).mono ?_; rintro e w2 ⟨rfl, hb2⟩; replace hb00 := bl_call hb00 (Nat.le_refl _) hb2; replace hx := hx.call hb2; obtain ⟨⟨x0, x1, x2, x3, x4, x5⟩, ⟨x6, x7, x8, x9, x10, x11⟩, x12⟩ := hx.get6)
      | (go_at_call 43; refine (HO.out _).mono ?_; rintro e w3 ⟨rfl, hb3⟩; replace hb00 := bl_call hb00 (Nat.le_refl _) hb3; replace hx := hx.call hb3; obtain ⟨⟨x0, x1, x2, x3, x4, x5⟩, ⟨x6, x7, x8, x9, x10, x11⟩, x12⟩ := hx.get6))
    go_ret2
    exact .inl ⟨by rw [HD.out]; omega, by rw [HD.out]; exact ⟨rfl, hb00⟩⟩
  have HN := Lib.hid hn
  rw [← hn] at HO
  clear hn
  by_cases hk : k < 0 ∨ 256 < k
  · have HD : Hid (decN y l k = 6) := by
      show decN y l k = 6
      unfold decN
      rw [HNO.out, if_pos HN.out, if_pos hk]
    rcases hk with hk | hk
    all_goals
      go_wp2_with (first
        | (go_at_call 59; refine (HC.out _).mono ?_; rintro e w2 ⟨rfl, hb2⟩; replace hb00 := bl_call hb00 (Nat.le_refl _) hb2; replace hx := hx.call hb2; obtain ⟨⟨x0, x1, x2, x3, x4, x5⟩, ⟨x6, x7, x8, x9, x10, x11⟩, x12⟩ := hx.get6)
        | (go_at_call 43; refine (HO.out _).mono ?_; rintro e w3 ⟨rfl, hb3⟩; replace hb00 := bl_call hb00 (Nat.le_refl _) hb3; replace hx := hx.call hb3; obtain ⟨⟨x0, x1, x2, x3, x4, x5⟩, ⟨x6, x7, x8, x9, x10, x11⟩, x12⟩ := hx.get6))
      go_ret2
      exact .inl ⟨by rw [HD.out]; omega, by rw [HD.out]; exact ⟨rfl, hb00⟩⟩
  have HD : Hid (decN y l k = if l.any (decBad mo k) then 6 else 0) := by
    show decN y l k = _
    unfold decN
    rw [HNO.out, HMO.out, if_pos HN.out, if_neg hk]
  obtain ⟨kn, rfl⟩ : ∃ kn : Nat, k = (kn : Int) := ⟨k.toNat, by omega⟩
  have hk2 : kn ≤ 256 := by omega
  clear hk
  go_upto_region 10 with (first
    | (go_at_call 59; refine (HC.out _).mono ?_; rintro e w2 ⟨rfl, hb2⟩; replace hb00 := bl_call hb00 (Nat.le_refl _) hb2; replace hx := hx.call hb2; obtain ⟨⟨x0, x1, x2, x3, x4, x5⟩, ⟨x6, x7, x8, x9, x10, x11⟩, x12⟩ := hx.get6)
    | (go_at_call 43; refine (HO.out _).mono ?_; rintro e w3 ⟨rfl, hb3⟩; replace hb00 := bl_call hb00 (Nat.le_refl _) hb3; replace hx := hx.call hb3; obtain ⟨⟨x0, x1, x2, x3, x4, x5⟩, ⟨x6, x7, x8, x9, x10, x11⟩, x12⟩ := hx.get6))
  have hsz : w.heap.size + 1 ≤ w3.heap.size := hx.lt
  clear HC HO hb2 hb3
  clear x0 x1 x2 x3 x4 x5 x6 x7 x8 x9 x10 x11 x12
  have hkm : kn * mo ≤ 256 * 4294967296 := Nat.mul_le_mul hk2 hmo
  obtain ⟨KM, hKM⟩ : ∃ KM : Nat, kn * mo = KM := ⟨_, rfl⟩
  have hKMi : (kn : Int) * (mo : Int) = (KM : Int) := by rw [← hKM]; exact (Int.natCast_mul kn mo).symm
  rw [hKM] at hkm
  have hw1 : IntKind.u64.wrap (kn : Int) = (kn : Int) := IntWalk.u64_in _ (by omega)
  have hw2 : IntKind.u64.wrap (KM : Int) = (KM : Int) := IntWalk.u64_in _ (by omega)
  clear hKM
  go_wp2_with fail
  go_loopw [9, 30] (fun v9 i wr => ∃ (q : Nat) (A' : Option Addr) (cp : Nat), q ≤ l.length ∧ i = .int .i64 q ∧ v9 = .slice A' q cp ∧ Hid ((l.take q).any (decBad mo kn) = false) ∧
      Vs wr w.heap.size [.int .u8 K, .int .u8 f, .int .i64 B, .int .i64 N, .int .i64 M, .int .i64 C] ∧ wr.ownsRow (w.heap.size + 1) 39 1 (.slice A' q cp) q (cellsU ((l.take q).map (·.1))) ∧ Below w.heap.size w wr ∧ w.heap.size + 1 ≤ wr.heap.size) (fun _ i _ => l.length - (intOf i).toNat)
  case atStart => exact ⟨0, none, 0, Nat.zero_le _, rfl, rfl, (by rw [List.take_zero]; rfl : (l.take 0).any (decBad mo kn) = false), hx, World.ownsRow_nil _ _ _ _, hb00, hsz⟩
  case round =>
    clear hx hb00 hsz hxl
    obtain ⟨q, A', cp, hq, rfl, rfl, hany, hx, hown, hbw, hsz⟩ := hrel
    obtain ⟨⟨x0, x1, x2, x3, x4, x5⟩, ⟨x6, x7, x8, x9, x10, x11⟩, x12⟩ := hx.get6
    by_cases hlt : q < l.length
    · obtain ⟨b, o, rfl, hBb, hr⟩ := hA (by omega)
      obtain ⟨⟨a0, a1⟩, he⟩ : ∃ e, l[q]? = some e := ⟨_, List.getElem?_eq_getElem hlt⟩
      obtain ⟨h0, h1, h2, h3⟩ := hok _ (List.mem_of_getElem? he)
      obtain ⟨d0, d1⟩ := (hr.below hbw hBb) _ _ he
      dsimp only at h0 h1 h2 h3 d0 d1
      have HE := Lib.hid he
      clear he hr hA
      go_upto_region 12 with fail
      clear x0 x1 x2 x3 x4 x5 x6 x7 x8 x9 x10 x11 x12
      replace hown := own_call hown ((Below.refl _ _).alloc (Nat.le_refl _) (.cells #[.int .u64 a0, .int .u64 a1] 41))
      have hsz4 : w.heap.size + 1 ≤ (wr.alloc (.cells #[.int .u64 a0, .int .u64 a1] 41)).heap.size := by rw [World.size_alloc]; omega
      have hv := V2.new wr (.int .u64 a0) (.int .u64 a1) 41
      have hbA : Below wr.heap.size wr (wr.alloc (.cells #[.int .u64 a0, .int .u64 a1] 41)) := (Below.refl _ _).alloc (Nat.le_refl _) _
      replace hbw := bl_call hbw (Nat.le_refl _) hbA
      replace hx := hx.call hbA
      clear hbA
      generalize wr.alloc (.cells #[.int .u64 a0, .int .u64 a1] 41) = w4 at hown hsz4 hv hx hbw ⊢
      obtain ⟨⟨x0, x1, x2, x3, x4, x5⟩, ⟨x6, x7, x8, x9, x10, x11⟩, x12⟩ := hx.get6
      obtain ⟨v0, v1, v2, v3, v4⟩ := V2.mk hv.c0 hv.c1 hv.f0 hv.f1 hv.lt
      have hpm := Pm_ge hf
      have hbz : wr.heap.size < w4.heap.size := hv.lt
      by_cases hin : a0 + 18446744073709551616 * a1 < ((Pm f : Nat) : Int)
      rotate_left
      · have hbad : decBad mo kn (a0, a1) = true := by
          unfold decBad
          dsimp only
          rw [hKMi, Bool.or_eq_true, decide_eq_true_eq, bne_iff_ne]
          omega
        have HIN : Hid (∀ wz, Calls Try.prog 84 #[.int .u8 f, .agg #[.int .u64 a0, .int .u64 a1]] wz fun e w' => e = .returned (.bool false) ∧ Below wz.heap.size wz w') := by
          intro wz
          have h := field_In f _ a0 a1 wz (FM.ofN hf) h0 h1 h2 h3
          rwa [decide_eq_false hin] at h
        have HD6 : Hid (decN y l kn = 6) := by
          show decN y l kn = 6
          rw [HD.out, if_pos (List.any_eq_true.2 ⟨_, List.mem_of_getElem? HE.out, hbad⟩)]
        clear hbad hin
        refine region_B (n := 19) (m := 20) (f := 19) (by kernel_rfl) (by kernel_rfl) rfl ?_
        refine WpH.takeD 0 (some 34) (v := ?_) rfl rfl (by kernel_rfl) (fun _ _ _ h => h) (.val rfl (fun wz hwz => ?_)) ?_
        rotate_left
        · go_simp; try (with_reducible rfl)
        (simp only [Act.put]); (try simp only [List.setIfInBounds_toArray]); (try simp only [List.set_cons_succ]); (try simp only [List.set_cons_zero])
        refine WpH.takeD 1 (some 35) (v := ?_) rfl rfl (by kernel_rfl) (fun _ _ _ h => h) (.val rfl (fun wz hwz => ?_)) ?_
        rotate_left
        · (obtain ⟨hcz, hfz⟩ := bcell hwz; go_simp; try (with_reducible rfl))
        (simp only [Act.put]); (try simp only [List.setIfInBounds_toArray]); (try simp only [List.set_cons_succ]); (try simp only [List.set_cons_zero])
        refine WpH.takeD 2 (some 36) (v := ?_) rfl rfl (by kernel_rfl) (fun _ _ _ h => h) (.val rfl (fun wz hwz => ?_)) ?_
        rotate_left
        · (obtain ⟨hcz, hfz⟩ := bcell hwz; go_simp; try (with_reducible rfl))
        (simp only [Act.put]); (try simp only [List.setIfInBounds_toArray]); (try simp only [List.set_cons_succ]); (try simp only [List.set_cons_zero])
        refine WpH.takeD 3 (some 37) rfl rfl (by kernel_rfl) (fun _ _ _ h => h) (.call rfl (fun wz hwz => HIN.out wz) (fun wz hwz => ?_)) ?_
        · go_simp; try (with_reducible rfl)
        (simp only [Act.put]); (try simp only [List.setIfInBounds_toArray]); (try simp only [List.set_cons_succ]); (try simp only [List.set_cons_zero])
        refine WpH.takeD 4 (some 38) (v := ?_) rfl rfl (by kernel_rfl) (fun _ _ _ h => h) (.val rfl (fun wz hwz => ?_)) ?_
        rotate_left
        · go_simp; try (with_reducible rfl)
        (simp only [Act.put]); (try simp only [List.setIfInBounds_toArray]); (try simp only [List.set_cons_succ]); (try simp only [List.set_cons_zero])
        refine WpH.takeD 5 (some 39) (v := ?_) rfl rfl (by kernel_rfl) (fun _ _ _ h => h) (.val rfl (fun wz hwz => ?_)) ?_
        rotate_left
        · go_simp; try (with_reducible rfl)
        (simp only [Act.put]); (try simp only [List.setIfInBounds_toArray]); (try simp only [List.set_cons_succ]); (try simp only [List.set_cons_zero])
        refine WpH.takeD 6 (some 40) rfl rfl (by kernel_rfl) (fun _ _ _ h => h) (.skip rfl) ?_
        (simp only [Act.put]); (try simp only [List.setIfInBounds_toArray]); (try simp only [List.set_cons_succ]); (try simp only [List.set_cons_zero])
        refine WpH.takeD 7 (some 41) rfl rfl (by kernel_rfl) (fun _ _ _ h => h) (.skip rfl) ?_
        (simp only [Act.put]); (try simp only [List.setIfInBounds_toArray]); (try simp only [List.set_cons_succ]); (try simp only [List.set_cons_zero])
        refine WpH.takeD 8 (some 42) rfl rfl (by kernel_rfl) (fun _ _ _ h => h) (.skip rfl) ?_
        (simp only [Act.put]); (try simp only [List.setIfInBounds_toArray]); (try simp only [List.set_cons_succ]); (try simp only [List.set_cons_zero])
        refine WpH.takeD 9 (some 43) (v := ?_) rfl rfl (by kernel_rfl) (fun _ _ _ h => h) (.val rfl (fun wz hwz => ?_)) ?_
        rotate_left
        · go_simp; try (with_reducible rfl)
        (simp only [Act.put]); (try simp only [List.setIfInBounds_toArray]); (try simp only [List.set_cons_succ]); (try simp only [List.set_cons_zero])
        refine WpH.takeD 10 (some 44) (v := ?_) rfl rfl (by kernel_rfl) (fun _ _ _ h => h) (.val rfl (fun wz hwz => ?_)) ?_
        rotate_left
        · go_simp; try (with_reducible rfl)
        (simp only [Act.put]); (try simp only [List.setIfInBounds_toArray]); (try simp only [List.set_cons_succ]); (try simp only [List.set_cons_zero])
        refine WpH.takeD 11 (some 45) rfl rfl (by kernel_rfl) (fun _ _ _ h => h) (.skip rfl) ?_
        (simp only [Act.put]); (try simp only [List.setIfInBounds_toArray]); (try simp only [List.set_cons_succ]); (try simp only [List.set_cons_zero])
        refine WpH.takeD 12 (some 46) rfl rfl (by kernel_rfl) (fun _ _ _ h => h) (.skip rfl) ?_
        (simp only [Act.put]); (try simp only [List.setIfInBounds_toArray]); (try simp only [List.set_cons_succ]); (try simp only [List.set_cons_zero])
        refine WpH.takeD 13 (some 47) rfl rfl (by kernel_rfl) (fun _ _ _ h => h) (.skip rfl) ?_
        (simp only [Act.put]); (try simp only [List.setIfInBounds_toArray]); (try simp only [List.set_cons_succ]); (try simp only [List.set_cons_zero])
        refine WpH.takeD 14 (some 48) rfl rfl (by kernel_rfl) (fun _ _ _ h => h) (.skip rfl) ?_
        (simp only [Act.put]); (try simp only [List.setIfInBounds_toArray]); (try simp only [List.set_cons_succ]); (try simp only [List.set_cons_zero])
        refine WpH.takeD 15 (some 49) rfl rfl (by kernel_rfl) (fun _ _ _ h => h) (.skip rfl) ?_
        (simp only [Act.put]); (try simp only [List.setIfInBounds_toArray]); (try simp only [List.set_cons_succ]); (try simp only [List.set_cons_zero])
        refine WpH.takeD 16 (some 50) rfl rfl (by kernel_rfl) (fun _ _ _ h => h) (.skip rfl) ?_
        (simp only [Act.put]); (try simp only [List.setIfInBounds_toArray]); (try simp only [List.set_cons_succ]); (try simp only [List.set_cons_zero])
        refine WpH.takeD 17 (some 51) rfl rfl (by kernel_rfl) (fun _ _ _ h => h) (.skip rfl) ?_
        (simp only [Act.put]); (try simp only [List.setIfInBounds_toArray]); (try simp only [List.set_cons_succ]); (try simp only [List.set_cons_zero])
        refine WpH.takeD 18 (some 52) rfl rfl (by kernel_rfl) (fun _ _ _ h => h) (.skip rfl) ?_
        (simp only [Act.put]); (try simp only [List.setIfInBounds_toArray]); (try simp only [List.set_cons_succ]); (try simp only [List.set_cons_zero])
        refine WpH.doneB (by kernel_rfl) (fun w6 hw6 => ?_)
        (try simp only [List.drop_succ_cons]); (try simp only [List.drop_zero]); (try simp only [Nat.reduceSub]); (try simp only [List.take_succ_cons]); (try simp only [List.take_zero])
        clear x0 x1 x2 x3 x4 x5 x6 x7 x8 x9 x10 x11 x12 v0 v1 v2 v3 v4
        replace hbw := bl_call hbw (Nat.le_refl _) hw6
        replace hx := hx.call hw6
        replace hv := hv.call hw6
        replace hown := own_call hown hw6
        go_wp2_with fail
        go_ret2
        exact .inl ⟨by rw [HD6.out]; omega, by rw [HD6.out]; exact ⟨rfl, hbw⟩⟩
      have HIN : Hid (∀ wz, Calls Try.prog 84 #[.int .u8 f, .agg #[.int .u64 a0, .int .u64 a1]] wz fun e w' => e = .returned (.bool true) ∧ Below wz.heap.size wz w') := by
        intro wz
        have h := field_In f _ a0 a1 wz (FM.ofN hf) h0 h1 h2 h3
        rwa [decide_eq_true hin] at h
      clear hin hpm
      by_cases hz : a1 = 0
      rotate_left
      · have hbad : decBad mo kn (a0, a1) = true := by
          unfold decBad
          dsimp only
          rw [Bool.or_eq_true, bne_iff_ne]
          exact .inl hz
        have HD6 : Hid (decN y l kn = 6) := by
          show decN y l kn = 6
          rw [HD.out, if_pos (List.any_eq_true.2 ⟨_, List.mem_of_getElem? HE.out, hbad⟩)]
        have hz1 : (a1 == 0) = false := by simpa using hz
        have hz2 : (a1 != 0) = true := by simpa using hz
        clear hbad
        refine region_B (n := 19) (m := 20) (f := 19) (by kernel_rfl) (by kernel_rfl) rfl ?_
        refine WpH.takeD 0 (some 34) (v := ?_) rfl rfl (by kernel_rfl) (fun _ _ _ h => h) (.val rfl (fun wz hwz => ?_)) ?_
        rotate_left
        · go_simp; try (with_reducible rfl)
        (simp only [Act.put]); (try simp only [List.setIfInBounds_toArray]); (try simp only [List.set_cons_succ]); (try simp only [List.set_cons_zero])
        refine WpH.takeD 1 (some 35) (v := ?_) rfl rfl (by kernel_rfl) (fun _ _ _ h => h) (.val rfl (fun wz hwz => ?_)) ?_
        rotate_left
        · (obtain ⟨hcz, hfz⟩ := bcell hwz; go_simp; try (with_reducible rfl))
        (simp only [Act.put]); (try simp only [List.setIfInBounds_toArray]); (try simp only [List.set_cons_succ]); (try simp only [List.set_cons_zero])
        refine WpH.takeD 2 (some 36) (v := ?_) rfl rfl (by kernel_rfl) (fun _ _ _ h => h) (.val rfl (fun wz hwz => ?_)) ?_
        rotate_left
        · (obtain ⟨hcz, hfz⟩ := bcell hwz; go_simp; try (with_reducible rfl))
        (simp only [Act.put]); (try simp only [List.setIfInBounds_toArray]); (try simp only [List.set_cons_succ]); (try simp only [List.set_cons_zero])
        refine WpH.takeD 3 (some 37) rfl rfl (by kernel_rfl) (fun _ _ _ h => h) (.call rfl (fun wz hwz => HIN.out wz) (fun wz hwz => ?_)) ?_
        · go_simp; try (with_reducible rfl)
        (simp only [Act.put]); (try simp only [List.setIfInBounds_toArray]); (try simp only [List.set_cons_succ]); (try simp only [List.set_cons_zero])
        refine WpH.takeD 4 (some 38) (v := ?_) rfl rfl (by kernel_rfl) (fun _ _ _ h => h) (.val rfl (fun wz hwz => ?_)) ?_
        rotate_left
        · go_simp; try (with_reducible rfl)
        (simp only [Act.put]); (try simp only [List.setIfInBounds_toArray]); (try simp only [List.set_cons_succ]); (try simp only [List.set_cons_zero])
        refine WpH.takeD 5 (some 39) (v := ?_) rfl rfl (by kernel_rfl) (fun _ _ _ h => h) (.val rfl (fun wz hwz => ?_)) ?_
        rotate_left
        · go_simp; try (with_reducible rfl)
        (simp only [Act.put]); (try simp only [List.setIfInBounds_toArray]); (try simp only [List.set_cons_succ]); (try simp only [List.set_cons_zero])
        refine WpH.takeD 6 (some 40) (v := ?_) rfl rfl (by kernel_rfl) (fun _ _ _ h => h) (.val rfl (fun wz hwz => ?_)) ?_
        rotate_left
        · go_simp; try (with_reducible rfl)
        (simp only [Act.put]); (try simp only [List.setIfInBounds_toArray]); (try simp only [List.set_cons_succ]); (try simp only [List.set_cons_zero])
        refine WpH.takeD 7 (some 41) (v := ?_) rfl rfl (by kernel_rfl) (fun _ _ _ h => h) (.val rfl (fun wz hwz => ?_)) ?_
        rotate_left
        · (obtain ⟨hcz, hfz⟩ := bcell hwz; go_simp; try (with_reducible rfl))
        (simp only [Act.put]); (try simp only [List.setIfInBounds_toArray]); (try simp only [List.set_cons_succ]); (try simp only [List.set_cons_zero])
        refine WpH.takeD 8 (some 42) (v := ?_) rfl rfl (by kernel_rfl) (fun _ _ _ h => h) (.val rfl (fun wz hwz => ?_)) ?_
        rotate_left
        · go_simp; try (with_reducible rfl)
        (simp only [Act.put]); (try simp only [List.setIfInBounds_toArray]); (try simp only [List.set_cons_succ]); (try simp only [List.set_cons_zero])
        refine WpH.takeD 9 (some 43) (v := ?_) rfl rfl (by kernel_rfl) (fun _ _ _ h => h) (.val rfl (fun wz hwz => ?_)) ?_
        rotate_left
        · go_simp; try (with_reducible rfl)
        (simp only [Act.put]); (try simp only [List.setIfInBounds_toArray]); (try simp only [List.set_cons_succ]); (try simp only [List.set_cons_zero])
        refine WpH.takeD 10 (some 44) (v := ?_) rfl rfl (by kernel_rfl) (fun _ _ _ h => h) (.val rfl (fun wz hwz => ?_)) ?_
        rotate_left
        · go_simp; try (with_reducible rfl)
        (simp only [Act.put]); (try simp only [List.setIfInBounds_toArray]); (try simp only [List.set_cons_succ]); (try simp only [List.set_cons_zero])
        refine WpH.takeD 11 (some 45) rfl rfl (by kernel_rfl) (fun _ _ _ h => h) (.skip rfl) ?_
        (simp only [Act.put]); (try simp only [List.setIfInBounds_toArray]); (try simp only [List.set_cons_succ]); (try simp only [List.set_cons_zero])
        refine WpH.takeD 12 (some 46) rfl rfl (by kernel_rfl) (fun _ _ _ h => h) (.skip rfl) ?_
        (simp only [Act.put]); (try simp only [List.setIfInBounds_toArray]); (try simp only [List.set_cons_succ]); (try simp only [List.set_cons_zero])
        refine WpH.takeD 13 (some 47) rfl rfl (by kernel_rfl) (fun _ _ _ h => h) (.skip rfl) ?_
        (simp only [Act.put]); (try simp only [List.setIfInBounds_toArray]); (try simp only [List.set_cons_succ]); (try simp only [List.set_cons_zero])
        refine WpH.takeD 14 (some 48) rfl rfl (by kernel_rfl) (fun _ _ _ h => h) (.skip rfl) ?_
        (simp only [Act.put]); (try simp only [List.setIfInBounds_toArray]); (try simp only [List.set_cons_succ]); (try simp only [List.set_cons_zero])
        refine WpH.takeD 15 (some 49) rfl rfl (by kernel_rfl) (fun _ _ _ h => h) (.skip rfl) ?_
        (simp only [Act.put]); (try simp only [List.setIfInBounds_toArray]); (try simp only [List.set_cons_succ]); (try simp only [List.set_cons_zero])
        refine WpH.takeD 16 (some 50) rfl rfl (by kernel_rfl) (fun _ _ _ h => h) (.skip rfl) ?_
        (simp only [Act.put]); (try simp only [List.setIfInBounds_toArray]); (try simp only [List.set_cons_succ]); (try simp only [List.set_cons_zero])
        refine WpH.takeD 17 (some 51) rfl rfl (by kernel_rfl) (fun _ _ _ h => h) (.skip rfl) ?_
        (simp only [Act.put]); (try simp only [List.setIfInBounds_toArray]); (try simp only [List.set_cons_succ]); (try simp only [List.set_cons_zero])
        refine WpH.takeD 18 (some 52) rfl rfl (by kernel_rfl) (fun _ _ _ h => h) (.skip rfl) ?_
        (simp only [Act.put]); (try simp only [List.setIfInBounds_toArray]); (try simp only [List.set_cons_succ]); (try simp only [List.set_cons_zero])
        refine WpH.doneB (by kernel_rfl) (fun w6 hw6 => ?_)
        (try simp only [List.drop_succ_cons]); (try simp only [List.drop_zero]); (try simp only [Nat.reduceSub]); (try simp only [List.take_succ_cons]); (try simp only [List.take_zero])
        clear x0 x1 x2 x3 x4 x5 x6 x7 x8 x9 x10 x11 x12 v0 v1 v2 v3 v4
        replace hbw := bl_call hbw (Nat.le_refl _) hw6
        replace hx := hx.call hw6
        replace hv := hv.call hw6
        replace hown := own_call hown hw6
        go_wp2_with fail
        go_ret2
        exact .inl ⟨by rw [HD6.out]; omega, by rw [HD6.out]; exact ⟨rfl, hbw⟩⟩
      subst hz
      by_cases hgt : (KM : Int) < a0
      · have hbad : decBad mo kn (a0, 0) = true := by
          unfold decBad
          dsimp only
          rw [hKMi, Bool.or_eq_true, decide_eq_true_eq]
          exact .inr hgt
        have HD6 : Hid (decN y l kn = 6) := by
          show decN y l kn = 6
          rw [HD.out, if_pos (List.any_eq_true.2 ⟨_, List.mem_of_getElem? HE.out, hbad⟩)]
        have hd : decide ((KM : Int) < a0) = true := decide_eq_true hgt
        clear hbad
        refine region_B (n := 19) (m := 20) (f := 19) (by kernel_rfl) (by kernel_rfl) rfl ?_
        refine WpH.takeD 0 (some 34) (v := ?_) rfl rfl (by kernel_rfl) (fun _ _ _ h => h) (.val rfl (fun wz hwz => ?_)) ?_
        rotate_left
        · go_simp; try (with_reducible rfl)
        (simp only [Act.put]); (try simp only [List.setIfInBounds_toArray]); (try simp only [List.set_cons_succ]); (try simp only [List.set_cons_zero])
        refine WpH.takeD 1 (some 35) (v := ?_) rfl rfl (by kernel_rfl) (fun _ _ _ h => h) (.val rfl (fun wz hwz => ?_)) ?_
        rotate_left
        · (obtain ⟨hcz, hfz⟩ := bcell hwz; go_simp; try (with_reducible rfl))
        (simp only [Act.put]); (try simp only [List.setIfInBounds_toArray]); (try simp only [List.set_cons_succ]); (try simp only [List.set_cons_zero])
        refine WpH.takeD 2 (some 36) (v := ?_) rfl rfl (by kernel_rfl) (fun _ _ _ h => h) (.val rfl (fun wz hwz => ?_)) ?_
        rotate_left
        · (obtain ⟨hcz, hfz⟩ := bcell hwz; go_simp; try (with_reducible rfl))
        (simp only [Act.put]); (try simp only [List.setIfInBounds_toArray]); (try simp only [List.set_cons_succ]); (try simp only [List.set_cons_zero])
        refine WpH.takeD 3 (some 37) rfl rfl (by kernel_rfl) (fun _ _ _ h => h) (.call rfl (fun wz hwz => HIN.out wz) (fun wz hwz => ?_)) ?_
        · go_simp; try (with_reducible rfl)
        (simp only [Act.put]); (try simp only [List.setIfInBounds_toArray]); (try simp only [List.set_cons_succ]); (try simp only [List.set_cons_zero])
        refine WpH.takeD 4 (some 38) (v := ?_) rfl rfl (by kernel_rfl) (fun _ _ _ h => h) (.val rfl (fun wz hwz => ?_)) ?_
        rotate_left
        · go_simp; try (with_reducible rfl)
        (simp only [Act.put]); (try simp only [List.setIfInBounds_toArray]); (try simp only [List.set_cons_succ]); (try simp only [List.set_cons_zero])
        refine WpH.takeD 5 (some 39) (v := ?_) rfl rfl (by kernel_rfl) (fun _ _ _ h => h) (.val rfl (fun wz hwz => ?_)) ?_
        rotate_left
        · go_simp; try (with_reducible rfl)
        (simp only [Act.put]); (try simp only [List.setIfInBounds_toArray]); (try simp only [List.set_cons_succ]); (try simp only [List.set_cons_zero])
        refine WpH.takeD 6 (some 40) (v := ?_) rfl rfl (by kernel_rfl) (fun _ _ _ h => h) (.val rfl (fun wz hwz => ?_)) ?_
        rotate_left
        · go_simp; try (with_reducible rfl)
        (simp only [Act.put]); (try simp only [List.setIfInBounds_toArray]); (try simp only [List.set_cons_succ]); (try simp only [List.set_cons_zero])
        refine WpH.takeD 7 (some 41) (v := ?_) rfl rfl (by kernel_rfl) (fun _ _ _ h => h) (.val rfl (fun wz hwz => ?_)) ?_
        rotate_left
        · (obtain ⟨hcz, hfz⟩ := bcell hwz; go_simp; try (with_reducible rfl))
        (simp only [Act.put]); (try simp only [List.setIfInBounds_toArray]); (try simp only [List.set_cons_succ]); (try simp only [List.set_cons_zero])
        refine WpH.takeD 8 (some 42) (v := ?_) rfl rfl (by kernel_rfl) (fun _ _ _ h => h) (.val rfl (fun wz hwz => ?_)) ?_
        rotate_left
        · go_simp; try (with_reducible rfl)
        (simp only [Act.put]); (try simp only [List.setIfInBounds_toArray]); (try simp only [List.set_cons_succ]); (try simp only [List.set_cons_zero])
        refine WpH.takeD 9 (some 43) (v := ?_) rfl rfl (by kernel_rfl) (fun _ _ _ h => h) (.val rfl (fun wz hwz => ?_)) ?_
        rotate_left
        · go_simp; try (with_reducible rfl)
        (simp only [Act.put]); (try simp only [List.setIfInBounds_toArray]); (try simp only [List.set_cons_succ]); (try simp only [List.set_cons_zero])
        refine WpH.takeD 10 (some 44) (v := ?_) rfl rfl (by kernel_rfl) (fun _ _ _ h => h) (.val rfl (fun wz hwz => ?_)) ?_
        rotate_left
        · go_simp; try (with_reducible rfl)
        (simp only [Act.put]); (try simp only [List.setIfInBounds_toArray]); (try simp only [List.set_cons_succ]); (try simp only [List.set_cons_zero])
        refine WpH.takeD 11 (some 45) (v := ?_) rfl rfl (by kernel_rfl) (fun _ _ _ h => h) (.val rfl (fun wz hwz => ?_)) ?_
        rotate_left
        · go_simp; try (with_reducible rfl)
        (simp only [Act.put]); (try simp only [List.setIfInBounds_toArray]); (try simp only [List.set_cons_succ]); (try simp only [List.set_cons_zero])
        refine WpH.takeD 12 (some 46) (v := ?_) rfl rfl (by kernel_rfl) (fun _ _ _ h => h) (.val rfl (fun wz hwz => ?_)) ?_
        rotate_left
        · (obtain ⟨hcz, hfz⟩ := bcell hwz; go_simp; try (with_reducible rfl))
        (simp only [Act.put]); (try simp only [List.setIfInBounds_toArray]); (try simp only [List.set_cons_succ]); (try simp only [List.set_cons_zero])
        refine WpH.takeD 13 (some 47) (v := ?_) rfl rfl (by kernel_rfl) (fun _ _ _ h => h) (.val rfl (fun wz hwz => ?_)) ?_
        rotate_left
        · go_simp; try (with_reducible rfl)
        (simp only [Act.put]); (try simp only [List.setIfInBounds_toArray]); (try simp only [List.set_cons_succ]); (try simp only [List.set_cons_zero])
        refine WpH.takeD 14 (some 48) (v := ?_) rfl rfl (by kernel_rfl) (fun _ _ _ h => h) (.val rfl (fun wz hwz => ?_)) ?_
        rotate_left
        · go_simp; try (with_reducible rfl)
        (simp only [Act.put]); (try simp only [List.setIfInBounds_toArray]); (try simp only [List.set_cons_succ]); (try simp only [List.set_cons_zero])
        refine WpH.takeD 15 (some 49) (v := ?_) rfl rfl (by kernel_rfl) (fun _ _ _ h => h) (.val rfl (fun wz hwz => ?_)) ?_
        rotate_left
        · (obtain ⟨hcz, hfz⟩ := bcell hwz; go_simp; try (with_reducible rfl))
        (simp only [Act.put]); (try simp only [List.setIfInBounds_toArray]); (try simp only [List.set_cons_succ]); (try simp only [List.set_cons_zero])
        refine WpH.takeD 16 (some 50) rfl rfl (by kernel_rfl) (fun _ _ _ h => h) (.call rfl (fun wz hwz => HM.out wz) (fun wz hwz => ?_)) ?_
        · go_simp; try (with_reducible rfl)
        (simp only [Act.put]); (try simp only [List.setIfInBounds_toArray]); (try simp only [List.set_cons_succ]); (try simp only [List.set_cons_zero])
        refine WpH.takeD 17 (some 51) (v := ?_) rfl rfl (by kernel_rfl) (fun _ _ _ h => h) (.val rfl (fun wz hwz => ?_)) ?_
        rotate_left
        · go_simp; try (with_reducible rfl)
        (simp only [Act.put]); (try simp only [List.setIfInBounds_toArray]); (try simp only [List.set_cons_succ]); (try simp only [List.set_cons_zero])
        refine WpH.takeD 18 (some 52) (v := ?_) rfl rfl (by kernel_rfl) (fun _ _ _ h => h) (.val rfl (fun wz hwz => ?_)) ?_
        rotate_left
        · go_simp; try (with_reducible rfl)
        (simp only [Act.put]); (try simp only [List.setIfInBounds_toArray]); (try simp only [List.set_cons_succ]); (try simp only [List.set_cons_zero])
        refine WpH.doneB (by kernel_rfl) (fun w6 hw6 => ?_)
        (try simp only [List.drop_succ_cons]); (try simp only [List.drop_zero]); (try simp only [Nat.reduceSub]); (try simp only [List.take_succ_cons]); (try simp only [List.take_zero])
        clear x0 x1 x2 x3 x4 x5 x6 x7 x8 x9 x10 x11 x12 v0 v1 v2 v3 v4
        replace hbw := bl_call hbw (Nat.le_refl _) hw6
        replace hx := hx.call hw6
        replace hv := hv.call hw6
        replace hown := own_call hown hw6
        go_wp2_with fail
        go_ret2
        exact .inl ⟨by rw [HD6.out]; omega, by rw [HD6.out]; exact ⟨rfl, hbw⟩⟩
      · have hgood : decBad mo kn (a0, 0) = false := by
          unfold decBad
          dsimp only
          rw [hKMi, Bool.or_eq_false_iff, decide_eq_false_iff_not]
          exact ⟨rfl, hgt⟩
        have HANY := Lib.hid (any_take HE.out hany.out hgood)
        have hd : decide ((KM : Int) < a0) = false := decide_eq_false hgt
        clear hgood hgt
        refine region_B (n := 19) (m := 20) (f := 19) (by kernel_rfl) (by kernel_rfl) rfl ?_
        refine WpH.takeD 0 (some 34) (v := ?_) rfl rfl (by kernel_rfl) (fun _ _ _ h => h) (.val rfl (fun wz hwz => ?_)) ?_
        rotate_left
        · go_simp; try (with_reducible rfl)
        (simp only [Act.put]); (try simp only [List.setIfInBounds_toArray]); (try simp only [List.set_cons_succ]); (try simp only [List.set_cons_zero])
        refine WpH.takeD 1 (some 35) (v := ?_) rfl rfl (by kernel_rfl) (fun _ _ _ h => h) (.val rfl (fun wz hwz => ?_)) ?_
        rotate_left
        · (obtain ⟨hcz, hfz⟩ := bcell hwz; go_simp; try (with_reducible rfl))
        (simp only [Act.put]); (try simp only [List.setIfInBounds_toArray]); (try simp only [List.set_cons_succ]); (try simp only [List.set_cons_zero])
        refine WpH.takeD 2 (some 36) (v := ?_) rfl rfl (by kernel_rfl) (fun _ _ _ h => h) (.val rfl (fun wz hwz => ?_)) ?_
        rotate_left
        · (obtain ⟨hcz, hfz⟩ := bcell hwz; go_simp; try (with_reducible rfl))
        (simp only [Act.put]); (try simp only [List.setIfInBounds_toArray]); (try simp only [List.set_cons_succ]); (try simp only [List.set_cons_zero])
        refine WpH.takeD 3 (some 37) rfl rfl (by kernel_rfl) (fun _ _ _ h => h) (.call rfl (fun wz hwz => HIN.out wz) (fun wz hwz => ?_)) ?_
        · go_simp; try (with_reducible rfl)
        (simp only [Act.put]); (try simp only [List.setIfInBounds_toArray]); (try simp only [List.set_cons_succ]); (try simp only [List.set_cons_zero])
        refine WpH.takeD 4 (some 38) (v := ?_) rfl rfl (by kernel_rfl) (fun _ _ _ h => h) (.val rfl (fun wz hwz => ?_)) ?_
        rotate_left
        · go_simp; try (with_reducible rfl)
        (simp only [Act.put]); (try simp only [List.setIfInBounds_toArray]); (try simp only [List.set_cons_succ]); (try simp only [List.set_cons_zero])
        refine WpH.takeD 5 (some 39) (v := ?_) rfl rfl (by kernel_rfl) (fun _ _ _ h => h) (.val rfl (fun wz hwz => ?_)) ?_
        rotate_left
        · go_simp; try (with_reducible rfl)
        (simp only [Act.put]); (try simp only [List.setIfInBounds_toArray]); (try simp only [List.set_cons_succ]); (try simp only [List.set_cons_zero])
        refine WpH.takeD 6 (some 40) (v := ?_) rfl rfl (by kernel_rfl) (fun _ _ _ h => h) (.val rfl (fun wz hwz => ?_)) ?_
        rotate_left
        · go_simp; try (with_reducible rfl)
        (simp only [Act.put]); (try simp only [List.setIfInBounds_toArray]); (try simp only [List.set_cons_succ]); (try simp only [List.set_cons_zero])
        refine WpH.takeD 7 (some 41) (v := ?_) rfl rfl (by kernel_rfl) (fun _ _ _ h => h) (.val rfl (fun wz hwz => ?_)) ?_
        rotate_left
        · (obtain ⟨hcz, hfz⟩ := bcell hwz; go_simp; try (with_reducible rfl))
        (simp only [Act.put]); (try simp only [List.setIfInBounds_toArray]); (try simp only [List.set_cons_succ]); (try simp only [List.set_cons_zero])
        refine WpH.takeD 8 (some 42) (v := ?_) rfl rfl (by kernel_rfl) (fun _ _ _ h => h) (.val rfl (fun wz hwz => ?_)) ?_
        rotate_left
        · go_simp; try (with_reducible rfl)
        (simp only [Act.put]); (try simp only [List.setIfInBounds_toArray]); (try simp only [List.set_cons_succ]); (try simp only [List.set_cons_zero])
        refine WpH.takeD 9 (some 43) (v := ?_) rfl rfl (by kernel_rfl) (fun _ _ _ h => h) (.val rfl (fun wz hwz => ?_)) ?_
        rotate_left
        · go_simp; try (with_reducible rfl)
        (simp only [Act.put]); (try simp only [List.setIfInBounds_toArray]); (try simp only [List.set_cons_succ]); (try simp only [List.set_cons_zero])
        refine WpH.takeD 10 (some 44) (v := ?_) rfl rfl (by kernel_rfl) (fun _ _ _ h => h) (.val rfl (fun wz hwz => ?_)) ?_
        rotate_left
        · go_simp; try (with_reducible rfl)
        (simp only [Act.put]); (try simp only [List.setIfInBounds_toArray]); (try simp only [List.set_cons_succ]); (try simp only [List.set_cons_zero])
        refine WpH.takeD 11 (some 45) (v := ?_) rfl rfl (by kernel_rfl) (fun _ _ _ h => h) (.val rfl (fun wz hwz => ?_)) ?_
        rotate_left
        · go_simp; try (with_reducible rfl)
        (simp only [Act.put]); (try simp only [List.setIfInBounds_toArray]); (try simp only [List.set_cons_succ]); (try simp only [List.set_cons_zero])
        refine WpH.takeD 12 (some 46) (v := ?_) rfl rfl (by kernel_rfl) (fun _ _ _ h => h) (.val rfl (fun wz hwz => ?_)) ?_
        rotate_left
        · (obtain ⟨hcz, hfz⟩ := bcell hwz; go_simp; try (with_reducible rfl))
        (simp only [Act.put]); (try simp only [List.setIfInBounds_toArray]); (try simp only [List.set_cons_succ]); (try simp only [List.set_cons_zero])
        refine WpH.takeD 13 (some 47) (v := ?_) rfl rfl (by kernel_rfl) (fun _ _ _ h => h) (.val rfl (fun wz hwz => ?_)) ?_
        rotate_left
        · go_simp; try (with_reducible rfl)
        (simp only [Act.put]); (try simp only [List.setIfInBounds_toArray]); (try simp only [List.set_cons_succ]); (try simp only [List.set_cons_zero])
        refine WpH.takeD 14 (some 48) (v := ?_) rfl rfl (by kernel_rfl) (fun _ _ _ h => h) (.val rfl (fun wz hwz => ?_)) ?_
        rotate_left
        · go_simp; try (with_reducible rfl)
        (simp only [Act.put]); (try simp only [List.setIfInBounds_toArray]); (try simp only [List.set_cons_succ]); (try simp only [List.set_cons_zero])
        refine WpH.takeD 15 (some 49) (v := ?_) rfl rfl (by kernel_rfl) (fun _ _ _ h => h) (.val rfl (fun wz hwz => ?_)) ?_
        rotate_left
        · (obtain ⟨hcz, hfz⟩ := bcell hwz; go_simp; try (with_reducible rfl))
        (simp only [Act.put]); (try simp only [List.setIfInBounds_toArray]); (try simp only [List.set_cons_succ]); (try simp only [List.set_cons_zero])
        refine WpH.takeD 16 (some 50) rfl rfl (by kernel_rfl) (fun _ _ _ h => h) (.call rfl (fun wz hwz => HM.out wz) (fun wz hwz => ?_)) ?_
        · go_simp; try (with_reducible rfl)
        (simp only [Act.put]); (try simp only [List.setIfInBounds_toArray]); (try simp only [List.set_cons_succ]); (try simp only [List.set_cons_zero])
        refine WpH.takeD 17 (some 51) (v := ?_) rfl rfl (by kernel_rfl) (fun _ _ _ h => h) (.val rfl (fun wz hwz => ?_)) ?_
        rotate_left
        · go_simp; try (with_reducible rfl)
        (simp only [Act.put]); (try simp only [List.setIfInBounds_toArray]); (try simp only [List.set_cons_succ]); (try simp only [List.set_cons_zero])
        refine WpH.takeD 18 (some 52) (v := ?_) rfl rfl (by kernel_rfl) (fun _ _ _ h => h) (.val rfl (fun wz hwz => ?_)) ?_
        rotate_left
        · go_simp; try (with_reducible rfl)
        (simp only [Act.put]); (try simp only [List.setIfInBounds_toArray]); (try simp only [List.set_cons_succ]); (try simp only [List.set_cons_zero])
        refine WpH.doneB (by kernel_rfl) (fun w6 hw6 => ?_)
        (try simp only [List.drop_succ_cons]); (try simp only [List.drop_zero]); (try simp only [Nat.reduceSub]); (try simp only [List.take_succ_cons]); (try simp only [List.take_zero])
        clear x0 x1 x2 x3 x4 x5 x6 x7 x8 x9 x10 x11 x12 v0 v1 v2 v3 v4
        have hz6 := hw6.size
        replace hbw := bl_call hbw (Nat.le_refl _) hw6
        replace hx := hx.call hw6
        replace hv := hv.call hw6
        replace hown := own_call hown hw6
        obtain ⟨⟨x0, x1, x2, x3, x4, x5⟩, ⟨x6, x7, x8, x9, x10, x11⟩, x12⟩ := hx.get6
        obtain ⟨v0, v1, v2, v3, v4⟩ := V2.mk hv.c0 hv.c1 hv.f0 hv.f1 hv.lt
        obtain ⟨zs, hzs⟩ : ∃ zs : List Int, (l.take q).map (·.1) = zs := ⟨_, rfl⟩
        rw [hzs] at hown
        have HZS := Lib.hid hzs
        have HOW := Lib.hid (hown.alloc (.cells #[.int .u64 a0] 39))
        have hbase : w.heap.size + 1 ≤ (w6.alloc (.cells #[.int .u64 a0] 39)).heap.size := by rw [World.size_alloc]; omega
        have HR1 : Hid (0 < 1 → ∃ b o, (some ⟨w6.heap.size, 0, none⟩ : Option Addr) = some ⟨b, o, none⟩ ∧ RowU (w6.alloc (.cells #[.int .u64 a0] 39)) b o [a0]) := by
          intro _
          refine ⟨_, _, rfl, fun i e hi => ?_⟩
          have hV := Vs.new w6 [.int .u64 a0] #[.int .u64 a0] 39 rfl
          match i, hi with
          | 0, hi =>
            obtain rfl : a0 = e := by simpa using hi
            exact hV.cell 0 _ rfl
          | i + 1, hi => simp at hi
        have HT : Hid (cellsU ((l.take (q + 1)).map (·.1)) = cellsU (zs ++ [a0])) := by
          show cellsU ((l.take (q + 1)).map (·.1)) = _
          rw [List.take_add_one, HE.out, List.map_append, HZS.out]
          rfl
        have hk1 : q + 1 ≤ 1099511627776 := by omega
        clear hown hw6 hzs
        go_wp2_with (at_builtin; (refine wpList_append_U rfl (.tmp 54) (.tmp 57) rfl (w.heap.size + 1) _ q zs rfl HOW.out (some ⟨w6.heap.size, 0, none⟩) 1 1 [a0] rfl rfl HR1.out hk1 hbase ?_; intro v2 w7 hown7 hg7 hat7; have hb7 : Below (w.heap.size + 1) (w6.alloc (.cells #[.int .u64 a0] 39)) w7 := (Below.refl _ _).grown hg7 hbase (fun q hq => (HOW.out.lt q hq).1); obtain ⟨g2, cap2, hv2⟩ := own_slice hown7; rw [hv2]))
        rw [hv2, ← HT.out] at hown7
        have hx7 := (hx.alloc (.cells #[.int .u64 a0] 39)).belowB hb7 (by omega)
        have hbw7 : Below w.heap.size w w7 := (hbw.alloc (by have := hbw.size; omega) (.cells #[.int .u64 a0] 39)).trans (hb7.mono (by omega))
        have hz7 := hb7.size
        go_roundw
        case rel => exact ⟨q + 1, _, cap2, by omega, by go_num, rfl, HANY.out, hx7, hown7, hbw7, by omega⟩
        case measure => simp [intOf]; omega
    · obtain rfl : q = l.length := by omega
      rw [List.take_length] at hany hown
      have HD0 : Hid (decN y l kn = 0) := by
        show decN y l kn = 0
        rw [HD.out, hany.out]
        rfl
      go_wp2_with fail
      go_ret2
      refine .inr ⟨HD0.out, _, rfl, ?_, hbw⟩
      have hlen : (l.map (·.1)).length = l.length := List.length_map ..
      exact SlU.of_own (xs := l.map (·.1)) (by rw [hlen]; exact hown) (fun e he => by
        obtain ⟨x, hx, rfl⟩ := List.mem_map.1 he
        exact ⟨(hok x hx).1, (hok x hx).2.1⟩)

end Go.Proofs.Ytiphahbeedeebaa

namespace Go.Proofs.Ytiphahbeedeebaa
open Go.RowKit Fm
set_option linter.unusedVariables false
set_option maxRecDepth 100000

/-- elements, as what they stand for -/
def kEs (f : Nat) (l : List E) : KL f := l.map (kE f)
theorem kEs_length (f : Nat) (l : List E) : (kEs f l).length = l.length := List.length_map ..
theorem kEs_at {f : Nat} {l : List E} {i : Nat} {e : E} (h : l[i]? = some e) : (kEs f l)[i]? = some (kE f e) := by unfold kEs; rw [List.getElem?_map, h]; rfl
theorem kEs_esK {f : Nat} (l : KL f) : kEs f (esK l) = l := by
  unfold kEs esK
  rw [List.map_map]
  conv => rhs; rw [← List.map_id l]
  exact List.map_congr_left fun x _ => kE_eK x

section
variable {f : Nat} (hf : IsF f)
include hf

set_option maxHeartbeats 4000000 in
theorem circuit_numberL (k b m c n : Int) (vl : Value) (l : List E) (w : World) (hl : SlE w w.heap.size vl l) (hn : l.length ≤ 1099511627776) :
    Calls Try.prog 101 #[.agg #[.int .u8 k, .int .u8 f, .int .i64 b, .int .i64 n, .int .i64 m, .int .i64 c], vl] w (RetK (knum (kEs f l)) w) := by
  obtain ⟨⟨A, cc, rfl, hc, hcm, hA⟩, hok⟩ := hl
  have hfb0 : (1 : Int) ≤ (f : Int) := by rcases hf.or with rfl | rfl <;> omega
  have hfb1 : (f : Int) ≤ 2 := by rcases hf.or with rfl | rfl <;> omega
  have hb00 : Below w.heap.size w w := Below.refl _ _
  have HLL := Lib.hid (kEs_length f l)
  go_enter Try.func101, Try.ntmps101
  go_upto_region 2 with fail
  have hx := ((Vs.new w [.int .u8 k, .int .u8 f, .int .i64 b, .int .i64 n, .int .i64 m, .int .i64 c] #[.int .u8 k, .int .u8 f, .int .i64 b, .int .i64 n, .int .i64 m, .int .i64 c] 60 rfl).alloc (.cells #[.int .u64 0, .int .u64 0] 41)).alloc (.cells #[.int .u64 0, .int .u64 0] 41)
  have hz := (V2.new (w.alloc (.cells #[.int .u8 k, .int .u8 f, .int .i64 b, .int .i64 n, .int .i64 m, .int .i64 c] 60)) (.int .u64 0) (.int .u64 0) 41).alloc (.cells #[.int .u64 0, .int .u64 0] 41)
  have hy := V2.new ((w.alloc (.cells #[.int .u8 k, .int .u8 f, .int .i64 b, .int .i64 n, .int .i64 m, .int .i64 c] 60)).alloc (.cells #[.int .u64 0, .int .u64 0] 41)) (.int .u64 0) (.int .u64 0) 41
  have hbA : Below w.heap.size w (((w.alloc (.cells #[.int .u8 k, .int .u8 f, .int .i64 b, .int .i64 n, .int .i64 m, .int .i64 c] 60)).alloc (.cells #[.int .u64 0, .int .u64 0] 41)).alloc (.cells #[.int .u64 0, .int .u64 0] 41)) := by repeat (first | exact Below.refl _ _ | with_reducible assumption | (refine bl_alloc ?_ (Nat.le_refl _) _) | (refine bl_set ?_ (by dsimp only; omega) _) | (refine Below.drew ?_) | (refine bl_drewN ?_ _) | (refine bl_call ?_ (Nat.le_refl _) (by assumption)))
  simp only [World.size_alloc] at hz hy
  generalize ((w.alloc (.cells #[.int .u8 k, .int .u8 f, .int .i64 b, .int .i64 n, .int .i64 m, .int .i64 c] 60)).alloc (.cells #[.int .u64 0, .int .u64 0] 41)).alloc (.cells #[.int .u64 0, .int .u64 0] 41) = w1 at hx hz hy hbA ⊢
  clear hb00
  go_wp2
  go_loopw [6] (fun i wr => ∃ j : Nat, j ≤ l.length ∧ i = .int .i64 ((j : Int) - 1) ∧ Vs wr w.heap.size [.int .u8 k, .int .u8 f, .int .i64 b, .int .i64 n, .int .i64 m, .int .i64 c] ∧ V2 wr (w.heap.size + 1) (.int .u64 0) (.int .u64 0) ∧
      V2 wr (w.heap.size + 1 + 1) (.int .u64 (lo (knum ((kEs f l).drop j)))) (.int .u64 (hi (knum ((kEs f l).drop j)))) ∧ Below w.heap.size w wr) (fun i _ => (intOf i + 1).toNat)
  case atStart =>
    refine ⟨l.length, Nat.le_refl _, rfl, hx, hz, ?_, hbA⟩
    rw [← HLL.out, List.drop_length, show knum ([] : KL f) = 0 from rfl, lo_zero, hi_zero]
    exact hy
  case round =>
    clear hx hz hy hbA
    obtain ⟨j, hj, rfl, hx, hz, hy, hbw⟩ := hrel
    obtain ⟨⟨x0, x1, x2, x3, x4, x5⟩, ⟨x6, x7, x8, x9, x10, x11⟩, x12⟩ := hx.get6
    obtain ⟨z0, z1, z2, z3, z4⟩ := V2.mk hz.c0 hz.c1 hz.f0 hz.f1 hz.lt
    obtain ⟨y0, y1, y2, y3, y4⟩ := V2.mk hy.c0 hy.c1 hy.f0 hy.f1 hy.lt
    by_cases hj0 : j = 0
    · subst hj0
      rw [List.drop_zero] at hy y0 y1
      go_wp2
      refine bodyPost_ret (results_v2 (b := w.heap.size + 1) (u := .int .u64 (lo (knum (kEs f l)))) (v := .int .u64 (hi (knum (kEs f l)))) ?_ rfl rfl) rfl ?_
      · exact V2.set hz _ _
      · exact ⟨rfl, by repeat (first | exact Below.refl _ _ | with_reducible assumption | (refine bl_alloc ?_ (Nat.le_refl _) _) | (refine bl_set ?_ (by dsimp only; omega) _) | (refine Below.drew ?_) | (refine bl_drewN ?_ _) | (refine bl_call ?_ (Nat.le_refl _) (by assumption)))⟩
    · obtain ⟨j, rfl⟩ : ∃ i, j = i + 1 := ⟨j - 1, by omega⟩
      obtain ⟨bl, o, rfl, hB, hr⟩ := hA (by omega)
      obtain ⟨⟨a0, a1⟩, he⟩ : ∃ e, l[j]? = some e := ⟨_, List.getElem?_eq_getElem (by omega)⟩
      obtain ⟨h0, h1, h2, h3⟩ := hok _ (List.mem_of_getElem? he)
      obtain ⟨d0, d1⟩ := (hr.below hbw hB) _ _ he
      dsimp only at h0 h1 h2 h3 d0 d1
      have HST : Hid (knum ((kEs f l).drop j) = knum ((kEs f l).drop (j + 1)) + knum ((kEs f l).drop (j + 1)) + kL f a0 a1) := knum_drop (kEs f l) j _ (kEs_at he)
      generalize knum ((kEs f l).drop (j + 1)) = s at *
      have HAD : Hid (∀ wz, Calls Try.prog 52 #[.int .u8 f, vK (s + s), .agg #[.int .u64 a0, .int .u64 a1]] wz (RetK (s + s + kL f a0 a1) wz)) := by
        intro wz
        have h := field_AddL hf (lo (s + s)) (hi (s + s)) a0 a1 wz (lo_0 _) (lo_1 _) (hi_0 _) (hi_1 _) h0 h1 h2 h3
        rwa [kL_lohi] at h
      clear he hr hA
      have hkl : j < l.length := by omega
      have hbl : bl < wr.heap.size := Nat.lt_of_lt_of_le hB hbw.size
      go_wp2_with fail
      refine region_B (n := 12) (m := 13) (f := 12) (by kernel_rfl) (by kernel_rfl) rfl ?_
      refine WpH.takeD 0 (some 14) (v := ?_) rfl rfl (by kernel_rfl) (fun _ _ _ h => h) (.val rfl (fun wz hwz => ?_)) ?_
      rotate_left
      · go_simp; try (with_reducible rfl)
      (simp only [Act.put]); (try simp only [List.setIfInBounds_toArray]); (try simp only [List.set_cons_succ]); (try simp only [List.set_cons_zero])
      refine WpH.takeD 1 (some 15) (v := ?_) rfl rfl (by kernel_rfl) (fun _ _ _ h => h) (.val rfl (fun wz hwz => ?_)) ?_
      rotate_left
      · (obtain ⟨hcz, hfz⟩ := bcell hwz; go_simp; try (with_reducible rfl))
      (simp only [Act.put]); (try simp only [List.setIfInBounds_toArray]); (try simp only [List.set_cons_succ]); (try simp only [List.set_cons_zero])
      refine WpH.takeD 2 (some 16) (v := ?_) rfl rfl (by kernel_rfl) (fun _ _ _ h => h) (.val rfl (fun wz hwz => ?_)) ?_
      rotate_left
      · go_simp; try (with_reducible rfl)
      (simp only [Act.put]); (try simp only [List.setIfInBounds_toArray]); (try simp only [List.set_cons_succ]); (try simp only [List.set_cons_zero])
      refine WpH.takeD 3 (some 17) (v := ?_) rfl rfl (by kernel_rfl) (fun _ _ _ h => h) (.val rfl (fun wz hwz => ?_)) ?_
      rotate_left
      · (obtain ⟨hcz, hfz⟩ := bcell hwz; go_simp; try (with_reducible rfl))
      (simp only [Act.put]); (try simp only [List.setIfInBounds_toArray]); (try simp only [List.set_cons_succ]); (try simp only [List.set_cons_zero])
      refine WpH.takeD 4 (some 18) (v := ?_) rfl rfl (by kernel_rfl) (fun _ _ _ h => h) (.val rfl (fun wz hwz => ?_)) ?_
      rotate_left
      · (obtain ⟨hcz, hfz⟩ := bcell hwz; go_simp; try (with_reducible rfl))
      (simp only [Act.put]); (try simp only [List.setIfInBounds_toArray]); (try simp only [List.set_cons_succ]); (try simp only [List.set_cons_zero])
      refine WpH.takeD 5 (some 19) (v := ?_) rfl rfl (by kernel_rfl) (fun _ _ _ h => h) (.val rfl (fun wz hwz => ?_)) ?_
      rotate_left
      · (obtain ⟨hcz, hfz⟩ := bcell hwz; go_simp; try (with_reducible rfl))
      (simp only [Act.put]); (try simp only [List.setIfInBounds_toArray]); (try simp only [List.set_cons_succ]); (try simp only [List.set_cons_zero])
      refine WpH.takeD 6 (some 20) rfl rfl (by kernel_rfl) (fun _ _ _ h => h) (.call rfl (fun wz hwz => field_AddK hf s s wz) (fun wz hwz => ?_)) ?_
      · go_simp; try (with_reducible rfl)
      (simp only [Act.put]); (try simp only [List.setIfInBounds_toArray]); (try simp only [List.set_cons_succ]); (try simp only [List.set_cons_zero])
      refine WpH.takeD 7 (some 21) (v := ?_) rfl rfl (by kernel_rfl) (fun _ _ _ h => h) (.val rfl (fun wz hwz => ?_)) ?_
      rotate_left
      · go_simp; try (with_reducible rfl)
      (simp only [Act.put]); (try simp only [List.setIfInBounds_toArray]); (try simp only [List.set_cons_succ]); (try simp only [List.set_cons_zero])
      refine WpH.takeD 8 (some 22) (v := ?_) rfl rfl (by kernel_rfl) (fun _ _ _ h => h) (.val rfl (fun wz hwz => ?_)) ?_
      rotate_left
      · go_simp; try (with_reducible rfl)
      (simp only [Act.put]); (try simp only [List.setIfInBounds_toArray]); (try simp only [List.set_cons_succ]); (try simp only [List.set_cons_zero])
      refine WpH.takeD 9 (some 23) (v := ?_) rfl rfl (by kernel_rfl) (fun _ _ _ h => h) (.val rfl (fun wz hwz => ?_)) ?_
      rotate_left
      · go_simp; try (with_reducible rfl)
      (simp only [Act.put]); (try simp only [List.setIfInBounds_toArray]); (try simp only [List.set_cons_succ]); (try simp only [List.set_cons_zero])
      refine WpH.takeD 10 (some 24) (v := ?_) rfl rfl (by kernel_rfl) (fun _ _ _ h => h) (.val rfl (fun wz hwz => ?_)) ?_
      rotate_left
      · (obtain ⟨hcz, hfz⟩ := bcell hwz; go_simp; try (with_reducible rfl))
      (simp only [Act.put]); (try simp only [List.setIfInBounds_toArray]); (try simp only [List.set_cons_succ]); (try simp only [List.set_cons_zero])
      refine WpH.takeD 11 (some 25) rfl rfl (by kernel_rfl) (fun _ _ _ h => h) (.call rfl (fun wz hwz => HAD.out wz) (fun wz hwz => ?_)) ?_
      · go_simp; try (with_reducible rfl)
      (simp only [Act.put]); (try simp only [List.setIfInBounds_toArray]); (try simp only [List.set_cons_succ]); (try simp only [List.set_cons_zero])
      refine WpH.doneB (by kernel_rfl) (fun w6 hw6 => ?_)
      (try simp only [List.drop_succ_cons]); (try simp only [List.drop_zero]); (try simp only [Nat.reduceSub]); (try simp only [List.take_succ_cons]); (try simp only [List.take_zero])
      clear x0 x1 x2 x3 x4 x5 x6 x7 x8 x9 x10 x11 x12 z0 z1 z2 z3 z4 y0 y1 y2 y3 y4
      replace hbw := bl_call hbw (Nat.le_refl _) hw6
      replace hx := hx.call hw6
      replace hz := hz.call hw6
      replace hy := hy.call hw6
      obtain ⟨⟨x0, x1, x2, x3, x4, x5⟩, ⟨x6, x7, x8, x9, x10, x11⟩, x12⟩ := hx.get6
      obtain ⟨z0, z1, z2, z3, z4⟩ := V2.mk hz.c0 hz.c1 hz.f0 hz.f1 hz.lt
      obtain ⟨y0, y1, y2, y3, y4⟩ := V2.mk hy.c0 hy.c1 hy.f0 hy.f1 hy.lt
      go_wp2
      go_roundw
      case rel => exact ⟨j, by omega, by go_num, (hx.far (by dsimp only; omega) _).far (by dsimp only; omega) _, V2.oth hz (by omega) _ _, by rw [HST.out]; exact V2.set hy _ _, by repeat (first | exact Below.refl _ _ | with_reducible assumption | (refine bl_alloc ?_ (Nat.le_refl _) _) | (refine bl_set ?_ (by dsimp only; omega) _) | (refine Below.drew ?_) | (refine bl_drewN ?_ _) | (refine bl_call ?_ (Nat.le_refl _) (by assumption)))⟩
      case measure => simp [intOf]

/-- what is summed of a vector: numbers of b bits each -/
def numsE (b n : Nat) (l : List E) : List E := (List.range n).map fun i => eK (knum ((kEs f l).drop (i * b) |>.take b))
omit hf in
theorem numsE_length (b n : Nat) (l : List E) : (numsE (f := f) b n l).length = n := by unfold numsE; rw [List.length_map, List.length_range]
omit hf in
theorem numsE_at (b n : Nat) (l : List E) (i : Nat) (h : i < n) : (numsE (f := f) b n l)[i]? = some (eK (knum ((kEs f l).drop (i * b) |>.take b))) := by
  unfold numsE
  rw [List.getElem?_map, List.getElem?_range h]
  rfl
omit hf in
theorem numsE_ok (b n : Nat) (l : List E) : ∀ e, e ∈ numsE (f := f) b n l → okE e := by
  intro e he
  unfold numsE at he
  obtain ⟨i, _, rfl⟩ := List.mem_map.1 he
  exact okE_eK _

/-- what of a vector is summed -/
def truncE (f : Nat) (y : CK) (l : List E) : List E :=
  match y with
  | .sum b => numsE (f := f) b 1 l
  | .vec b n _ => numsE (f := f) b n l
  | _ => l.take y.nout
def lenV : Value → Nat
  | .slice _ n _ => n
  | _ => 0
/-- a slice of elements and no error come back -/
def RetSE (zs : List E) (w : World) (e : Ending) (w' : World) : Prop := ∃ v, e = .returned (.tuple #[v, .int .i64 0]) ∧ SlE w' w'.heap.size v zs ∧ Below w.heap.size w w'

omit hf in
theorem SlE.takeN {w : World} {B : Nat} {A : Option Addr} {c : Nat} {l : List E} {n L : Nat} (h : SlE w B (.slice A L c) l) (hn : n ≤ L) : SlE w B (.slice A n c) (l.take n) := by
  obtain ⟨⟨A', c', hh, h1, h2, h3⟩, hok⟩ := h
  injection hh with e1 e2 e3
  subst e1 e2 e3
  have hl : (l.take n).length = n := by rw [List.length_take]; omega
  refine ⟨⟨A, c, by rw [hl], by omega, h2, fun h0 => ?_⟩, fun e he => hok e (List.mem_of_mem_take he)⟩
  rw [hl] at h0
  obtain ⟨b, o, hA, hB, hr⟩ := h3 (by omega)
  refine ⟨b, o, hA, hB, fun i e hi => hr i e ?_⟩
  rw [List.getElem?_take] at hi
  split at hi
  · exact hi
  · cases hi
omit hf in
theorem SlE.dropN {w : World} {B b o : Nat} {c : Nat} {l : List E} {n L : Nat} (h : SlE w B (.slice (some ⟨b, o, none⟩) L c) l) (hn : n < L) : SlE w B (.slice (some ⟨b, o + n * 2, none⟩) (L - n) (c - n)) (l.drop n) := by
  obtain ⟨⟨A', c', hh, h1, h2, h3⟩, hok⟩ := h
  injection hh with e1 e2 e3
  subst e1 e2 e3
  have hl : (l.drop n).length = l.length - n := List.length_drop
  refine ⟨⟨some ⟨b, o + n * 2, none⟩, c - n, by rw [hl], by omega, by omega, fun h0 => ?_⟩, fun e he => hok e (List.mem_of_mem_drop he)⟩
  obtain ⟨b', o', hA, hB, hr⟩ := h3 (by omega)
  injection hA with hA
  injection hA with hb ho
  subst hb
  subst ho
  refine ⟨b, o + n * 2, rfl, hB, fun i e hi => ?_⟩
  rw [List.getElem?_drop] at hi
  have h4 := hr (n + i) e hi
  rw [show o + n * 2 + i * 2 = o + (n + i) * 2 by omega]
  exact h4

set_option maxHeartbeats 4000000 in
theorem circuit_Truncate_nums2 (b n m c : Nat) (hb1 : 1 ≤ b) (hb2 : b ≤ 32) (hn2 : n ≤ 64) (N : Int) (vl : Value) (l : List E) (w : World) (hl : SlE w w.heap.size vl l) (hlen : l.length = n * b)
    (HC : Hid (∀ wz, Calls Try.prog 59 #[.agg #[.int .u8 2, .int .u8 f, .int .i64 b, .int .i64 N, .int .i64 m, .int .i64 c]] wz (RetC 0 wz)))
    (HI : Hid (∀ wz, Calls Try.prog 45 #[.agg #[.int .u8 2, .int .u8 f, .int .i64 b, .int .i64 N, .int .i64 m, .int .i64 c]] wz (RetI l.length wz))) :
    Calls Try.prog 41 #[.agg #[.int .u8 2, .int .u8 f, .int .i64 b, .int .i64 N, .int .i64 m, .int .i64 c], vl] w (RetSE (numsE (f := f) b n l) w) := by
  have HSL := Lib.hid hl
  obtain ⟨⟨A, cc, rfl, hlc, hcm, hA⟩, hok⟩ := hl
  have hfb0 : (1 : Int) ≤ (f : Int) := by rcases hf.or with rfl | rfl <;> omega
  have hfb1 : (f : Int) ≤ 2 := by rcases hf.or with rfl | rfl <;> omega
  have hl2 : l.length ≤ 2048 := by rw [hlen]; exact Nat.le_trans (Nat.mul_le_mul hn2 hb2) (by omega)
  have HLEN := Lib.hid hlen
  have hb00 : Below w.heap.size w w := Below.refl _ _
  have HZL := Lib.hid (numsE_length (f := f) b n l)
  clear hlen
  go_enter Try.func41, Try.ntmps41
  go_upto_region 1 with fail
  have hx := Vs.new w [.int .u8 2, .int .u8 f, .int .i64 b, .int .i64 N, .int .i64 m, .int .i64 c] #[.int .u8 2, .int .u8 f, .int .i64 b, .int .i64 N, .int .i64 m, .int .i64 c] 60 rfl
  have hbA : Below w.heap.size w (w.alloc (.cells #[.int .u8 2, .int .u8 f, .int .i64 b, .int .i64 N, .int .i64 m, .int .i64 c] 60)) := by repeat (first | exact Below.refl _ _ | with_reducible assumption | (refine bl_alloc ?_ (Nat.le_refl _) _))
  replace hb00 := bl_call hb00 (Nat.le_refl _) hbA
  clear hbA
  generalize w.alloc (.cells #[.int .u8 2, .int .u8 f, .int .i64 b, .int .i64 N, .int .i64 m, .int .i64 c] 60) = w1 at hb00 hx ⊢
  obtain ⟨⟨x0, x1, x2, x3, x4, x5⟩, ⟨x6, x7, x8, x9, x10, x11⟩, x12⟩ := hx.get6
  have hxl : w.heap.size < w1.heap.size := hx.lt
  go_upto_region 10 with (first
    | (go_at_call 59; refine (HC.out _).mono ?_; rintro e w2 ⟨rfl, hb2⟩; replace hb00 := bl_call hb00 (Nat.le_refl _) hb2; replace hx := hx.call hb2; obtain ⟨⟨x0, x1, x2, x3, x4, x5⟩, ⟨x6, x7, x8, x9, x10, x11⟩, x12⟩ := hx.get6)
    | (go_at_call 45; refine (HI.out _).mono ?_; rintro e w3 ⟨rfl, hb3⟩; replace hb00 := bl_call hb00 (Nat.le_refl _) hb3; replace hx := hx.call hb3; obtain ⟨⟨x0, x1, x2, x3, x4, x5⟩, ⟨x6, x7, x8, x9, x10, x11⟩, x12⟩ := hx.get6))
  have hsz : w.heap.size + 1 ≤ w3.heap.size := hx.lt
  clear HC HI hb2 hb3
  clear x0 x1 x2 x3 x4 x5 x6 x7 x8 x9 x10 x11 x12
  go_wp2_with fail
  go_loopw [1, 7] (fun v1 v7 wr => ∃ (j p r : Nat) (A' : Option Addr) (cp : Nat) (A1 : Option Addr) (c1 : Nat), j ≤ n ∧ Hid (p = j * b) ∧ Hid (r = (n - j) * b) ∧ r ≤ 2048 ∧ v1 = .slice A1 r c1 ∧ v7 = .slice A' j cp ∧ Hid (SlE w w.heap.size (.slice A1 r c1) (l.drop p)) ∧
    Vs wr w.heap.size [.int .u8 2, .int .u8 f, .int .i64 b, .int .i64 N, .int .i64 m, .int .i64 c] ∧ wr.ownsRow (w.heap.size + 1) 41 2 (.slice A' j cp) j (cellsE ((numsE (f := f) b n l).take j)) ∧ Below w.heap.size w wr ∧ w.heap.size + 1 ≤ wr.heap.size) (fun v1 _ _ => lenV v1)
  case atStart => exact ⟨0, 0, l.length, none, 0, A, cc, Nat.zero_le _, (by rw [Nat.zero_mul] : 0 = 0 * b), (by rw [Nat.sub_zero]; exact HLEN.out : l.length = (n - 0) * b), hl2, rfl, rfl, (by rw [List.drop_zero]; exact HSL.out : SlE w w.heap.size (.slice A l.length cc) (l.drop 0)), hx, World.ownsRow_nil _ _ _ _, hb00, hsz⟩
  case round =>
    clear hx hb00 hsz hxl
    obtain ⟨j, p, r, A', cp, A1, c1, hj, hp, hr, hr2, rfl, rfl, hsl, hx, hown, hbw, hsz⟩ := hrel
    obtain ⟨⟨x0, x1, x2, x3, x4, x5⟩, ⟨x6, x7, x8, x9, x10, x11⟩, x12⟩ := hx.get6
    by_cases hjn : j < n
    · have hbr : b ≤ r := by rw [hr.out]; exact Nat.le_mul_of_pos_left b (by omega)
      have hrl : (l.drop p).length = r ∧ r ≤ c1 ∧ c1 ≤ 9223372036854775807 ∧ ∃ bl o, A1 = some ⟨bl, o, none⟩ := by
        obtain ⟨⟨A2, c2, hh, h1, h2, h3⟩, _⟩ := hsl.out
        injection hh with e1 e2 e3
        subst e1 e3
        rw [← e2] at h1 h3
        obtain ⟨bl, o, hA, _⟩ := h3 (by omega)
        exact ⟨e2.symm, h1, h2, bl, o, hA⟩
      obtain ⟨hrl, hrc, hcm1, bl, o, rfl⟩ := hrl
      have HRL := Lib.hid hrl
      have HTK := Lib.hid (hsl.out.takeN (n := b) hbr)
      have hbl2 : ((l.drop p).take b).length = b := by rw [List.length_take]; omega
      have HNUM : Hid (∀ wz, Below w.heap.size w wz → Calls Try.prog 101 #[.agg #[.int .u8 2, .int .u8 f, .int .i64 b, .int .i64 N, .int .i64 m, .int .i64 c], .slice (some ⟨bl, o, none⟩) b c1] wz (RetK (knum (kEs f ((l.drop p).take b))) wz)) :=
        fun wz hb => circuit_numberL hf 2 b m c N _ ((l.drop p).take b) wz ((HTK.out.below hb).mono hb.size) (by rw [hbl2]; omega)
      obtain ⟨s, hs⟩ : ∃ s, knum (kEs f ((l.drop p).take b)) = s := ⟨_, rfl⟩
      rw [hs] at HNUM
      have HAT : Hid ((numsE (f := f) b n l)[j]? = some (eK s)) := by
        show (numsE (f := f) b n l)[j]? = some (eK s)
        rw [numsE_at b n l j hjn, ← hs, ← hp.out]
        unfold kEs
        rw [List.map_take, List.map_drop]
      have hb0 : (0 : Int) ≤ (b : Int) := by omega
      have hbri : (b : Int) ≤ (r : Int) := by omega
      have hbc : b ≤ c1 := by omega
      have hbc2 : (b : Int) ≤ (c1 : Int) := by omega
      have hr0 : (0 : Int) < (r : Int) := by omega
      clear hs hrl hbl2 HTK
      go_upto_region 12 with fail
      refine region_G (n := 8) (m := 10) (f := 8) (by kernel_rfl) (by kernel_rfl) rfl ?_
      refine WpG.takeD 0 (some 30) (v := ?_) rfl rfl (by kernel_rfl) (fun _ _ _ h => h) (.val rfl (fun wz hwz => ?_)) ?_
      rotate_left
      · go_simp; try (with_reducible rfl)
      (simp only [Act.put]); (try simp only [List.setIfInBounds_toArray]); (try simp only [List.set_cons_succ]); (try simp only [List.set_cons_zero])
      refine WpG.takeD 1 (some 31) (v := ?_) rfl rfl (by kernel_rfl) (fun _ _ _ h => h) (.val rfl (fun wz hwz => ?_)) ?_
      rotate_left
      · (obtain ⟨hcz, hfz⟩ := bcell (hwz); go_simp; try (with_reducible rfl))
      (simp only [Act.put]); (try simp only [List.setIfInBounds_toArray]); (try simp only [List.set_cons_succ]); (try simp only [List.set_cons_zero])
      refine WpG.takeD 2 (some 32) (v := ?_) rfl rfl (by kernel_rfl) (fun _ _ _ h => h) (.val rfl (fun wz hwz => ?_)) ?_
      rotate_left
      · go_simp; try (with_reducible rfl)
      (simp only [Act.put]); (try simp only [List.setIfInBounds_toArray]); (try simp only [List.set_cons_succ]); (try simp only [List.set_cons_zero])
      refine WpG.takeD 3 (some 33) (v := ?_) rfl rfl (by kernel_rfl) (fun _ _ _ h => h) (.val rfl (fun wz hwz => ?_)) ?_
      rotate_left
      · go_simp; try (with_reducible rfl)
      (simp only [Act.put]); (try simp only [List.setIfInBounds_toArray]); (try simp only [List.set_cons_succ]); (try simp only [List.set_cons_zero])
      refine WpG.takeD 4 (some 34) (v := ?_) rfl rfl (by kernel_rfl) (fun _ _ _ h => h) (.val rfl (fun wz hwz => ?_)) ?_
      rotate_left
      · (obtain ⟨hcz, hfz⟩ := bcell (hwz); go_simp; try (with_reducible rfl))
      (simp only [Act.put]); (try simp only [List.setIfInBounds_toArray]); (try simp only [List.set_cons_succ]); (try simp only [List.set_cons_zero])
      refine WpG.takeD 5 (some 35) (v := ?_) rfl rfl (by kernel_rfl) (fun _ _ _ h => h) (.val rfl (fun wz hwz => ?_)) ?_
      rotate_left
      · go_simp; try (with_reducible rfl)
      (simp only [Act.put]); (try simp only [List.setIfInBounds_toArray]); (try simp only [List.set_cons_succ]); (try simp only [List.set_cons_zero])
      refine WpG.takeD 6 (some 36) rfl rfl (by kernel_rfl) (fun _ _ _ h => h) (.call rfl (fun wz hwz => HNUM.out wz (hbw.trans ((hwz).mono hbw.size))) (fun wz hwz => ?_)) ?_
      · go_simp; try (with_reducible rfl)
      (simp only [Act.put]); (try simp only [List.setIfInBounds_toArray]); (try simp only [List.set_cons_succ]); (try simp only [List.set_cons_zero])
      refine WpG.oneD 7 (some 37) rfl rfl (by kernel_rfl) (fun g : Nat => Value.slice (some ⟨g, 0, none⟩) 1 1) (fun g wz => wr.heap.size ≤ g ∧ BlkE wz g [eK s]) (fun _ _ _ h hb => ⟨h.1, h.2.call hb⟩) (Fresh.slice 1 1 [.int .u64 (lo s), .int .u64 (hi s)] 41 rfl (fun wz hwz => (hwz).size) (fun wz hwz => by go_simp; try (with_reducible rfl)) (R := fun g wz => BlkE wz g [eK s]) (fun wz hwz => BlkE.new wz _ _ rfl)) (fun sb w0 hw0 hR0 => ?_)
      (simp only [Act.put]); (try simp only [List.setIfInBounds_toArray]); (try simp only [List.set_cons_succ]); (try simp only [List.set_cons_zero])
      refine WpG.done (by kernel_rfl) (fun w6 hS => ?_)
      (try simp only [List.drop_succ_cons]); (try simp only [List.drop_zero]); (try simp only [Nat.reduceSub]); (try simp only [List.take_succ_cons]); (try simp only [List.take_zero])
      obtain ⟨hb6, hsb, hBs⟩ := hS
      clear x0 x1 x2 x3 x4 x5 x6 x7 x8 x9 x10 x11 x12
      have hz6 := hb6.size
      replace hbw := bl_call hbw (Nat.le_refl _) hb6
      replace hx := hx.call hb6
      replace hown := own_call hown hb6
      obtain ⟨⟨x0, x1, x2, x3, x4, x5⟩, ⟨x6, x7, x8, x9, x10, x11⟩, x12⟩ := hx.get6
      obtain ⟨zs, hzs⟩ : ∃ zs, (numsE (f := f) b n l).take j = zs := ⟨_, rfl⟩
      rw [hzs] at hown
      have HOW := Lib.hid hown
      have HT : Hid (cellsE ((numsE (f := f) b n l).take (j + 1)) = cellsE (zs ++ [eK s])) := by
        show cellsE ((numsE (f := f) b n l).take (j + 1)) = _
        rw [List.take_add_one, HAT.out, hzs]
        rfl
      have HR1 : Hid (0 < 1 → ∃ b o, (some ⟨sb, 0, none⟩ : Option Addr) = some ⟨b, o, none⟩ ∧ RowE w6 b o [eK s]) := fun _ => ⟨_, _, rfl, hBs.rowE⟩
      have hk1 : j + 1 ≤ 1099511627776 := by omega
      have hbase : w.heap.size + 1 ≤ w6.heap.size := by omega
      have HP : Hid (p + b = (j + 1) * b) := by show p + b = (j + 1) * b; rw [hp.out, Nat.succ_mul]
      have HRR : Hid (r - b = (n - (j + 1)) * b) := by
        show r - b = (n - (j + 1)) * b
        obtain ⟨d, hd⟩ : ∃ d, n - j = d + 1 := ⟨n - j - 1, by omega⟩
        rw [hr.out, hd, show n - (j + 1) = d by omega, Nat.succ_mul, Nat.add_sub_cancel]
      clear hown hzs hb6 hBs hR0 hw0
      by_cases hcb : c1 = b
      · subst hcb
        obtain rfl : r = c1 := by omega
        have HSN : Hid (SlE w w.heap.size (.slice (some ⟨bl, o, none⟩) 0 0) (l.drop (p + r))) := by
          have h0 : l.drop (p + r) = [] := by rw [← List.drop_drop]; exact List.drop_eq_nil_of_le (by rw [HRL.out]; exact Nat.le_refl _)
          rw [h0]
          exact ⟨⟨_, 0, rfl, Nat.le_refl _, by omega, fun h => absurd h (by simp)⟩, fun e he => by cases he⟩
        go_upto_region 11 with (at_builtin; (refine wpList_append_E rfl (.tmp 30) (.tmp 37) rfl (w.heap.size + 1) _ j zs rfl HOW.out (some ⟨sb, 0, none⟩) 1 1 [eK s] rfl rfl HR1.out hk1 hbase ?_; intro v2 w7 hown7 hg7 hat7; have hb7 : Below (w.heap.size + 1) w6 w7 := (Below.refl _ _).grown hg7 hbase (fun q hq => (HOW.out.lt q hq).1); obtain ⟨g2, cap2, hv2⟩ := own_slice hown7; rw [hv2]))
        rw [hv2, ← HT.out] at hown7
        clear x0 x1 x2 x3 x4 x5 x6 x7 x8 x9 x10 x11 x12
        have hx7 := hx.belowB hb7 (by omega)
        have hbw7 : Below w.heap.size w w7 := hbw.trans (hb7.mono (by omega))
        have hz7 := hb7.size
        obtain ⟨⟨x70, x71, x72, x73, x74, x75⟩, ⟨x76, x77, x78, x79, x710, x711⟩, x712⟩ := hx7.get6
        go_wp2_with fail
        go_roundw
        case rel => exact ⟨j + 1, p + r, 0, _, cap2, _, _, by omega, HP.out, (by have h := HRR.out; rw [Nat.sub_self] at h; exact h : 0 = (n - (j + 1)) * r), by omega, rfl, rfl, HSN.out, hx7, hown7, hbw7, by omega⟩
        case measure => simp [lenV]; omega
      · have HSN : Hid (SlE w w.heap.size (.slice (some ⟨bl, o + b * 2, none⟩) (r - b) (c1 - b)) (l.drop (p + b))) := by
          show SlE w w.heap.size _ _
          by_cases hrb : b < r
          · have h := hsl.out.dropN hrb
            rwa [List.drop_drop] at h
          · have h0 : l.drop (p + b) = [] := by rw [← List.drop_drop]; exact List.drop_eq_nil_of_le (by rw [HRL.out]; omega)
            rw [h0, show r - b = 0 by omega]
            exact ⟨⟨_, c1 - b, rfl, by simp, by omega, fun h => absurd h (by simp)⟩, fun e he => by cases he⟩
        go_upto_region 11 with (at_builtin; (refine wpList_append_E rfl (.tmp 30) (.tmp 37) rfl (w.heap.size + 1) _ j zs rfl HOW.out (some ⟨sb, 0, none⟩) 1 1 [eK s] rfl rfl HR1.out hk1 hbase ?_; intro v2 w7 hown7 hg7 hat7; have hb7 : Below (w.heap.size + 1) w6 w7 := (Below.refl _ _).grown hg7 hbase (fun q hq => (HOW.out.lt q hq).1); obtain ⟨g2, cap2, hv2⟩ := own_slice hown7; rw [hv2]))
        rw [hv2, ← HT.out] at hown7
        clear x0 x1 x2 x3 x4 x5 x6 x7 x8 x9 x10 x11 x12
        have hx7 := hx.belowB hb7 (by omega)
        have hbw7 : Below w.heap.size w w7 := hbw.trans (hb7.mono (by omega))
        have hz7 := hb7.size
        obtain ⟨⟨x70, x71, x72, x73, x74, x75⟩, ⟨x76, x77, x78, x79, x710, x711⟩, x712⟩ := hx7.get6
        go_wp2_with fail
        go_roundw
        case rel => exact ⟨j + 1, p + b, r - b, _, cap2, _, _, by omega, HP.out, HRR.out, by omega, rfl, rfl, HSN.out, hx7, hown7, hbw7, by omega⟩
        case measure => simp [lenV]; omega
    · obtain rfl : j = n := by omega
      have hr0 : r = 0 := by rw [hr.out, Nat.sub_self, Nat.zero_mul]
      subst hr0
      rw [List.take_of_length_le (by rw [HZL.out]; exact Nat.le_refl _)] at hown
      go_wp2_with fail
      go_ret2
      exact ⟨_, rfl, SlE.of_own (xs := numsE (f := f) b j l) (by rw [HZL.out]; exact hown) (numsE_ok b j l), hbw⟩
set_option maxHeartbeats 4000000 in
theorem circuit_Truncate_nums3 (b n m c : Nat) (hb1 : 1 ≤ b) (hb2 : b ≤ 32) (hn2 : n ≤ 64) (N : Int) (vl : Value) (l : List E) (w : World) (hl : SlE w w.heap.size vl l) (hlen : l.length = n * b)
    (HC : Hid (∀ wz, Calls Try.prog 59 #[.agg #[.int .u8 3, .int .u8 f, .int .i64 b, .int .i64 N, .int .i64 m, .int .i64 c]] wz (RetC 0 wz)))
    (HI : Hid (∀ wz, Calls Try.prog 45 #[.agg #[.int .u8 3, .int .u8 f, .int .i64 b, .int .i64 N, .int .i64 m, .int .i64 c]] wz (RetI l.length wz))) :
    Calls Try.prog 41 #[.agg #[.int .u8 3, .int .u8 f, .int .i64 b, .int .i64 N, .int .i64 m, .int .i64 c], vl] w (RetSE (numsE (f := f) b n l) w) := by
  have HSL := Lib.hid hl
  obtain ⟨⟨A, cc, rfl, hlc, hcm, hA⟩, hok⟩ := hl
  have hfb0 : (1 : Int) ≤ (f : Int) := by rcases hf.or with rfl | rfl <;> omega
  have hfb1 : (f : Int) ≤ 2 := by rcases hf.or with rfl | rfl <;> omega
  have hl2 : l.length ≤ 2048 := by rw [hlen]; exact Nat.le_trans (Nat.mul_le_mul hn2 hb2) (by omega)
  have HLEN := Lib.hid hlen
  have hb00 : Below w.heap.size w w := Below.refl _ _
  have HZL := Lib.hid (numsE_length (f := f) b n l)
  clear hlen
  go_enter Try.func41, Try.ntmps41
  go_upto_region 1 with fail
  have hx := Vs.new w [.int .u8 3, .int .u8 f, .int .i64 b, .int .i64 N, .int .i64 m, .int .i64 c] #[.int .u8 3, .int .u8 f, .int .i64 b, .int .i64 N, .int .i64 m, .int .i64 c] 60 rfl
  have hbA : Below w.heap.size w (w.alloc (.cells #[.int .u8 3, .int .u8 f, .int .i64 b, .int .i64 N, .int .i64 m, .int .i64 c] 60)) := by repeat (first | exact Below.refl _ _ | with_reducible assumption | (refine bl_alloc ?_ (Nat.le_refl _) _))
  replace hb00 := bl_call hb00 (Nat.le_refl _) hbA
  clear hbA
  generalize w.alloc (.cells #[.int .u8 3, .int .u8 f, .int .i64 b, .int .i64 N, .int .i64 m, .int .i64 c] 60) = w1 at hb00 hx ⊢
  obtain ⟨⟨x0, x1, x2, x3, x4, x5⟩, ⟨x6, x7, x8, x9, x10, x11⟩, x12⟩ := hx.get6
  have hxl : w.heap.size < w1.heap.size := hx.lt
  go_upto_region 10 with (first
    | (go_at_call 59; refine (HC.out _).mono ?_; rintro e w2 ⟨rfl, hb2⟩; replace hb00 := bl_call hb00 (Nat.le_refl _) hb2; replace hx := hx.call hb2; obtain ⟨⟨x0, x1, x2, x3, x4, x5⟩, ⟨x6, x7, x8, x9, x10, x11⟩, x12⟩ := hx.get6)
    | (go_at_call 45; refine (HI.out _).mono ?_; rintro e w3 ⟨rfl, hb3⟩; replace hb00 := bl_call hb00 (Nat.le_refl _) hb3; replace hx := hx.call hb3; obtain ⟨⟨x0, x1, x2, x3, x4, x5⟩, ⟨x6, x7, x8, x9, x10, x11⟩, x12⟩ := hx.get6))
  have hsz : w.heap.size + 1 ≤ w3.heap.size := hx.lt
  clear HC HI hb2 hb3
  clear x0 x1 x2 x3 x4 x5 x6 x7 x8 x9 x10 x11 x12
  go_wp2_with fail
  go_loopw [1, 7] (fun v1 v7 wr => ∃ (j p r : Nat) (A' : Option Addr) (cp : Nat) (A1 : Option Addr) (c1 : Nat), j ≤ n ∧ Hid (p = j * b) ∧ Hid (r = (n - j) * b) ∧ r ≤ 2048 ∧ v1 = .slice A1 r c1 ∧ v7 = .slice A' j cp ∧ Hid (SlE w w.heap.size (.slice A1 r c1) (l.drop p)) ∧
    Vs wr w.heap.size [.int .u8 3, .int .u8 f, .int .i64 b, .int .i64 N, .int .i64 m, .int .i64 c] ∧ wr.ownsRow (w.heap.size + 1) 41 2 (.slice A' j cp) j (cellsE ((numsE (f := f) b n l).take j)) ∧ Below w.heap.size w wr ∧ w.heap.size + 1 ≤ wr.heap.size) (fun v1 _ _ => lenV v1)
  case atStart => exact ⟨0, 0, l.length, none, 0, A, cc, Nat.zero_le _, (by rw [Nat.zero_mul] : 0 = 0 * b), (by rw [Nat.sub_zero]; exact HLEN.out : l.length = (n - 0) * b), hl2, rfl, rfl, (by rw [List.drop_zero]; exact HSL.out : SlE w w.heap.size (.slice A l.length cc) (l.drop 0)), hx, World.ownsRow_nil _ _ _ _, hb00, hsz⟩
  case round =>
    clear hx hb00 hsz hxl
    obtain ⟨j, p, r, A', cp, A1, c1, hj, hp, hr, hr2, rfl, rfl, hsl, hx, hown, hbw, hsz⟩ := hrel
    obtain ⟨⟨x0, x1, x2, x3, x4, x5⟩, ⟨x6, x7, x8, x9, x10, x11⟩, x12⟩ := hx.get6
    by_cases hjn : j < n
    · have hbr : b ≤ r := by rw [hr.out]; exact Nat.le_mul_of_pos_left b (by omega)
      have hrl : (l.drop p).length = r ∧ r ≤ c1 ∧ c1 ≤ 9223372036854775807 ∧ ∃ bl o, A1 = some ⟨bl, o, none⟩ := by
        obtain ⟨⟨A2, c2, hh, h1, h2, h3⟩, _⟩ := hsl.out
        injection hh with e1 e2 e3
        subst e1 e3
        rw [← e2] at h1 h3
        obtain ⟨bl, o, hA, _⟩ := h3 (by omega)
        exact ⟨e2.symm, h1, h2, bl, o, hA⟩
      obtain ⟨hrl, hrc, hcm1, bl, o, rfl⟩ := hrl
      have HRL := Lib.hid hrl
      have HTK := Lib.hid (hsl.out.takeN (n := b) hbr)
      have hbl2 : ((l.drop p).take b).length = b := by rw [List.length_take]; omega
      have HNUM : Hid (∀ wz, Below w.heap.size w wz → Calls Try.prog 101 #[.agg #[.int .u8 3, .int .u8 f, .int .i64 b, .int .i64 N, .int .i64 m, .int .i64 c], .slice (some ⟨bl, o, none⟩) b c1] wz (RetK (knum (kEs f ((l.drop p).take b))) wz)) :=
        fun wz hb => circuit_numberL hf 3 b m c N _ ((l.drop p).take b) wz ((HTK.out.below hb).mono hb.size) (by rw [hbl2]; omega)
      obtain ⟨s, hs⟩ : ∃ s, knum (kEs f ((l.drop p).take b)) = s := ⟨_, rfl⟩
      rw [hs] at HNUM
      have HAT : Hid ((numsE (f := f) b n l)[j]? = some (eK s)) := by
        show (numsE (f := f) b n l)[j]? = some (eK s)
        rw [numsE_at b n l j hjn, ← hs, ← hp.out]
        unfold kEs
        rw [List.map_take, List.map_drop]
      have hb0 : (0 : Int) ≤ (b : Int) := by omega
      have hbri : (b : Int) ≤ (r : Int) := by omega
      have hbc : b ≤ c1 := by omega
      have hbc2 : (b : Int) ≤ (c1 : Int) := by omega
      have hr0 : (0 : Int) < (r : Int) := by omega
      clear hs hrl hbl2 HTK
      go_upto_region 12 with fail
      refine region_G (n := 8) (m := 10) (f := 8) (by kernel_rfl) (by kernel_rfl) rfl ?_
      refine WpG.takeD 0 (some 30) (v := ?_) rfl rfl (by kernel_rfl) (fun _ _ _ h => h) (.val rfl (fun wz hwz => ?_)) ?_
      rotate_left
      · go_simp; try (with_reducible rfl)
      (simp only [Act.put]); (try simp only [List.setIfInBounds_toArray]); (try simp only [List.set_cons_succ]); (try simp only [List.set_cons_zero])
      refine WpG.takeD 1 (some 31) (v := ?_) rfl rfl (by kernel_rfl) (fun _ _ _ h => h) (.val rfl (fun wz hwz => ?_)) ?_
      rotate_left
      · (obtain ⟨hcz, hfz⟩ := bcell (hwz); go_simp; try (with_reducible rfl))
      (simp only [Act.put]); (try simp only [List.setIfInBounds_toArray]); (try simp only [List.set_cons_succ]); (try simp only [List.set_cons_zero])
      refine WpG.takeD 2 (some 32) (v := ?_) rfl rfl (by kernel_rfl) (fun _ _ _ h => h) (.val rfl (fun wz hwz => ?_)) ?_
      rotate_left
      · go_simp; try (with_reducible rfl)
      (simp only [Act.put]); (try simp only [List.setIfInBounds_toArray]); (try simp only [List.set_cons_succ]); (try simp only [List.set_cons_zero])
      refine WpG.takeD 3 (some 33) (v := ?_) rfl rfl (by kernel_rfl) (fun _ _ _ h => h) (.val rfl (fun wz hwz => ?_)) ?_
      rotate_left
      · go_simp; try (with_reducible rfl)
      (simp only [Act.put]); (try simp only [List.setIfInBounds_toArray]); (try simp only [List.set_cons_succ]); (try simp only [List.set_cons_zero])
      refine WpG.takeD 4 (some 34) (v := ?_) rfl rfl (by kernel_rfl) (fun _ _ _ h => h) (.val rfl (fun wz hwz => ?_)) ?_
      rotate_left
      · (obtain ⟨hcz, hfz⟩ := bcell (hwz); go_simp; try (with_reducible rfl))
      (simp only [Act.put]); (try simp only [List.setIfInBounds_toArray]); (try simp only [List.set_cons_succ]); (try simp only [List.set_cons_zero])
      refine WpG.takeD 5 (some 35) (v := ?_) rfl rfl (by kernel_rfl) (fun _ _ _ h => h) (.val rfl (fun wz hwz => ?_)) ?_
      rotate_left
      · go_simp; try (with_reducible rfl)
      (simp only [Act.put]); (try simp only [List.setIfInBounds_toArray]); (try simp only [List.set_cons_succ]); (try simp only [List.set_cons_zero])
      refine WpG.takeD 6 (some 36) rfl rfl (by kernel_rfl) (fun _ _ _ h => h) (.call rfl (fun wz hwz => HNUM.out wz (hbw.trans ((hwz).mono hbw.size))) (fun wz hwz => ?_)) ?_
      · go_simp; try (with_reducible rfl)
      (simp only [Act.put]); (try simp only [List.setIfInBounds_toArray]); (try simp only [List.set_cons_succ]); (try simp only [List.set_cons_zero])
      refine WpG.oneD 7 (some 37) rfl rfl (by kernel_rfl) (fun g : Nat => Value.slice (some ⟨g, 0, none⟩) 1 1) (fun g wz => wr.heap.size ≤ g ∧ BlkE wz g [eK s]) (fun _ _ _ h hb => ⟨h.1, h.2.call hb⟩) (Fresh.slice 1 1 [.int .u64 (lo s), .int .u64 (hi s)] 41 rfl (fun wz hwz => (hwz).size) (fun wz hwz => by go_simp; try (with_reducible rfl)) (R := fun g wz => BlkE wz g [eK s]) (fun wz hwz => BlkE.new wz _ _ rfl)) (fun sb w0 hw0 hR0 => ?_)
      (simp only [Act.put]); (try simp only [List.setIfInBounds_toArray]); (try simp only [List.set_cons_succ]); (try simp only [List.set_cons_zero])
      refine WpG.done (by kernel_rfl) (fun w6 hS => ?_)
      (try simp only [List.drop_succ_cons]); (try simp only [List.drop_zero]); (try simp only [Nat.reduceSub]); (try simp only [List.take_succ_cons]); (try simp only [List.take_zero])
      obtain ⟨hb6, hsb, hBs⟩ := hS
      clear x0 x1 x2 x3 x4 x5 x6 x7 x8 x9 x10 x11 x12
      have hz6 := hb6.size
      replace hbw := bl_call hbw (Nat.le_refl _) hb6
      replace hx := hx.call hb6
      replace hown := own_call hown hb6
      obtain ⟨⟨x0, x1, x2, x3, x4, x5⟩, ⟨x6, x7, x8, x9, x10, x11⟩, x12⟩ := hx.get6
      obtain ⟨zs, hzs⟩ : ∃ zs, (numsE (f := f) b n l).take j = zs := ⟨_, rfl⟩
      rw [hzs] at hown
      have HOW := Lib.hid hown
      have HT : Hid (cellsE ((numsE (f := f) b n l).take (j + 1)) = cellsE (zs ++ [eK s])) := by
        show cellsE ((numsE (f := f) b n l).take (j + 1)) = _
        rw [List.take_add_one, HAT.out, hzs]
        rfl
      have HR1 : Hid (0 < 1 → ∃ b o, (some ⟨sb, 0, none⟩ : Option Addr) = some ⟨b, o, none⟩ ∧ RowE w6 b o [eK s]) := fun _ => ⟨_, _, rfl, hBs.rowE⟩
      have hk1 : j + 1 ≤ 1099511627776 := by omega
      have hbase : w.heap.size + 1 ≤ w6.heap.size := by omega
      have HP : Hid (p + b = (j + 1) * b) := by show p + b = (j + 1) * b; rw [hp.out, Nat.succ_mul]
      have HRR : Hid (r - b = (n - (j + 1)) * b) := by
        show r - b = (n - (j + 1)) * b
        obtain ⟨d, hd⟩ : ∃ d, n - j = d + 1 := ⟨n - j - 1, by omega⟩
        rw [hr.out, hd, show n - (j + 1) = d by omega, Nat.succ_mul, Nat.add_sub_cancel]
      clear hown hzs hb6 hBs hR0 hw0
      by_cases hcb : c1 = b
      · subst hcb
        obtain rfl : r = c1 := by omega
        have HSN : Hid (SlE w w.heap.size (.slice (some ⟨bl, o, none⟩) 0 0) (l.drop (p + r))) := by
          have h0 : l.drop (p + r) = [] := by rw [← List.drop_drop]; exact List.drop_eq_nil_of_le (by rw [HRL.out]; exact Nat.le_refl _)
          rw [h0]
          exact ⟨⟨_, 0, rfl, Nat.le_refl _, by omega, fun h => absurd h (by simp)⟩, fun e he => by cases he⟩
        go_upto_region 11 with (at_builtin; (refine wpList_append_E rfl (.tmp 30) (.tmp 37) rfl (w.heap.size + 1) _ j zs rfl HOW.out (some ⟨sb, 0, none⟩) 1 1 [eK s] rfl rfl HR1.out hk1 hbase ?_; intro v2 w7 hown7 hg7 hat7; have hb7 : Below (w.heap.size + 1) w6 w7 := (Below.refl _ _).grown hg7 hbase (fun q hq => (HOW.out.lt q hq).1); obtain ⟨g2, cap2, hv2⟩ := own_slice hown7; rw [hv2]))
        rw [hv2, ← HT.out] at hown7
        clear x0 x1 x2 x3 x4 x5 x6 x7 x8 x9 x10 x11 x12
        have hx7 := hx.belowB hb7 (by omega)
        have hbw7 : Below w.heap.size w w7 := hbw.trans (hb7.mono (by omega))
        have hz7 := hb7.size
        obtain ⟨⟨x70, x71, x72, x73, x74, x75⟩, ⟨x76, x77, x78, x79, x710, x711⟩, x712⟩ := hx7.get6
        go_wp2_with fail
        go_roundw
        case rel => exact ⟨j + 1, p + r, 0, _, cap2, _, _, by omega, HP.out, (by have h := HRR.out; rw [Nat.sub_self] at h; exact h : 0 = (n - (j + 1)) * r), by omega, rfl, rfl, HSN.out, hx7, hown7, hbw7, by omega⟩
        case measure => simp [lenV]; omega
      · have HSN : Hid (SlE w w.heap.size (.slice (some ⟨bl, o + b * 2, none⟩) (r - b) (c1 - b)) (l.drop (p + b))) := by
          show SlE w w.heap.size _ _
          by_cases hrb : b < r
          · have h := hsl.out.dropN hrb
            rwa [List.drop_drop] at h
          · have h0 : l.drop (p + b) = [] := by rw [← List.drop_drop]; exact List.drop_eq_nil_of_le (by rw [HRL.out]; omega)
            rw [h0, show r - b = 0 by omega]
            exact ⟨⟨_, c1 - b, rfl, by simp, by omega, fun h => absurd h (by simp)⟩, fun e he => by cases he⟩
        go_upto_region 11 with (at_builtin; (refine wpList_append_E rfl (.tmp 30) (.tmp 37) rfl (w.heap.size + 1) _ j zs rfl HOW.out (some ⟨sb, 0, none⟩) 1 1 [eK s] rfl rfl HR1.out hk1 hbase ?_; intro v2 w7 hown7 hg7 hat7; have hb7 : Below (w.heap.size + 1) w6 w7 := (Below.refl _ _).grown hg7 hbase (fun q hq => (HOW.out.lt q hq).1); obtain ⟨g2, cap2, hv2⟩ := own_slice hown7; rw [hv2]))
        rw [hv2, ← HT.out] at hown7
        clear x0 x1 x2 x3 x4 x5 x6 x7 x8 x9 x10 x11 x12
        have hx7 := hx.belowB hb7 (by omega)
        have hbw7 : Below w.heap.size w w7 := hbw.trans (hb7.mono (by omega))
        have hz7 := hb7.size
        obtain ⟨⟨x70, x71, x72, x73, x74, x75⟩, ⟨x76, x77, x78, x79, x710, x711⟩, x712⟩ := hx7.get6
        go_wp2_with fail
        go_roundw
        case rel => exact ⟨j + 1, p + b, r - b, _, cap2, _, _, by omega, HP.out, HRR.out, by omega, rfl, rfl, HSN.out, hx7, hown7, hbw7, by omega⟩
        case measure => simp [lenV]; omega
    · obtain rfl : j = n := by omega
      have hr0 : r = 0 := by rw [hr.out, Nat.sub_self, Nat.zero_mul]
      subst hr0
      rw [List.take_of_length_le (by rw [HZL.out]; exact Nat.le_refl _)] at hown
      go_wp2_with fail
      go_ret2
      exact ⟨_, rfl, SlE.of_own (xs := numsE (f := f) b j l) (by rw [HZL.out]; exact hown) (numsE_ok b j l), hbw⟩

omit hf in
set_option maxHeartbeats 4000000 in
theorem circuit_Truncate_first (K B N M C : Int) (n : Nat) (hk2 : ¬ K = 2) (hk3 : ¬ K = 3) (vl : Value) (l : List E) (w : World) (hl : SlE w w.heap.size vl l) (hnl : n ≤ l.length) (hl2 : l.length ≤ 2048)
    (HC : Hid (∀ wz, Calls Try.prog 59 #[.agg #[.int .u8 K, .int .u8 f, .int .i64 B, .int .i64 N, .int .i64 M, .int .i64 C]] wz (RetC 0 wz)))
    (HI : Hid (∀ wz, Calls Try.prog 45 #[.agg #[.int .u8 K, .int .u8 f, .int .i64 B, .int .i64 N, .int .i64 M, .int .i64 C]] wz (RetI l.length wz)))
    (HO : Hid (∀ wz, Calls Try.prog 43 #[.agg #[.int .u8 K, .int .u8 f, .int .i64 B, .int .i64 N, .int .i64 M, .int .i64 C]] wz (RetI n wz))) :
    Calls Try.prog 41 #[.agg #[.int .u8 K, .int .u8 f, .int .i64 B, .int .i64 N, .int .i64 M, .int .i64 C], vl] w (RetSE (l.take n) w) := by
  have HSL := Lib.hid hl
  obtain ⟨⟨A, cc, rfl, hlc, hcm, hA⟩, hok⟩ := hl
  have HTK := Lib.hid (HSL.out.takeN (n := n) hnl)
  have hb00 : Below w.heap.size w w := Below.refl _ _
  have HM : Hid ((l.take n).length = n) := by show (l.take n).length = n; rw [List.length_take]; omega
  have hn0 : (0 : Int) ≤ (n : Int) := by omega
  have hnc : n ≤ cc := by omega
  have hnci : (n : Int) ≤ (cc : Int) := by omega
  have hnli : (n : Int) ≤ (l.length : Int) := by omega
  clear hA
  go_enter Try.func41, Try.ntmps41
  go_upto_region 1 with fail
  have hx := Vs.new w [.int .u8 K, .int .u8 f, .int .i64 B, .int .i64 N, .int .i64 M, .int .i64 C] #[.int .u8 K, .int .u8 f, .int .i64 B, .int .i64 N, .int .i64 M, .int .i64 C] 60 rfl
  have hbA : Below w.heap.size w (w.alloc (.cells #[.int .u8 K, .int .u8 f, .int .i64 B, .int .i64 N, .int .i64 M, .int .i64 C] 60)) := by repeat (first | exact Below.refl _ _ | with_reducible assumption | (refine bl_alloc ?_ (Nat.le_refl _) _))
  replace hb00 := bl_call hb00 (Nat.le_refl _) hbA
  clear hbA
  generalize w.alloc (.cells #[.int .u8 K, .int .u8 f, .int .i64 B, .int .i64 N, .int .i64 M, .int .i64 C] 60) = w1 at hb00 hx ⊢
  obtain ⟨⟨x0, x1, x2, x3, x4, x5⟩, ⟨x6, x7, x8, x9, x10, x11⟩, x12⟩ := hx.get6
  go_upto_region 14 with (first
    | (go_at_call 59; refine (HC.out _).mono ?_; rintro e w2 ⟨rfl, hb2⟩; replace hb00 := bl_call hb00 (Nat.le_refl _) hb2; replace hx := hx.call hb2; obtain ⟨⟨x0, x1, x2, x3, x4, x5⟩, ⟨x6, x7, x8, x9, x10, x11⟩, x12⟩ := hx.get6)
    | (go_at_call 45; refine (HI.out _).mono ?_; rintro e w3 ⟨rfl, hb3⟩; replace hb00 := bl_call hb00 (Nat.le_refl _) hb3; replace hx := hx.call hb3; obtain ⟨⟨x0, x1, x2, x3, x4, x5⟩, ⟨x6, x7, x8, x9, x10, x11⟩, x12⟩ := hx.get6))
  have hsz : w.heap.size + 1 ≤ w3.heap.size := hx.lt
  clear HC HI hb2 hb3
  clear x0 x1 x2 x3 x4 x5 x6 x7 x8 x9 x10 x11 x12
  have hown0 : (w3.alloc (.cells #[] 41)).ownsRow w3.heap.size 41 2 (.slice (some ⟨w3.heap.size, 0, none⟩) 0 0) 0 (cellsE []) := World.ownsRow_made w3 #[] 0 (Nat.le_refl _) (by unfold maxLen; omega) rfl
  have hbA : Below w3.heap.size w3 (w3.alloc (.cells #[] 41)) := by repeat (first | exact Below.refl _ _ | with_reducible assumption | (refine bl_alloc ?_ (Nat.le_refl _) _) | (refine bl_set ?_ (by dsimp only; omega) _) | (refine Below.drew ?_) | (refine bl_drewN ?_ _) | (refine bl_call ?_ (Nat.le_refl _) (by assumption)))
  replace hb00 := bl_call hb00 (Nat.le_refl _) hbA
  replace hx := hx.call hbA
  obtain ⟨⟨x0, x1, x2, x3, x4, x5⟩, ⟨x6, x7, x8, x9, x10, x11⟩, x12⟩ := hx.get6
  have HW0 := Lib.hid hown0
  have hz3 : w3.heap.size ≤ (w3.alloc (.cells #[] 41)).heap.size := by rw [World.size_alloc]; omega
  clear hown0
  go_wp2_with (first
    | (go_at_call 43; refine (HO.out _).mono ?_; rintro e w5 ⟨rfl, hb5⟩; have hbw5 := bl_call hb00 (Nat.le_refl _) hb5; have HOW := Lib.hid (own_call HW0.out hb5); have hbase : w3.heap.size ≤ w5.heap.size := Nat.le_trans hz3 hb5.size; have HR1 : Hid (0 < n → ∃ b o, A = some ⟨b, o, none⟩ ∧ RowE w5 b o (l.take n)) := (fun h0 => by
        obtain ⟨⟨A2, c2, hh, _, _, h3⟩, _⟩ := HTK.out.later hbw5
        injection hh with e1 e2 e3
        subst e1
        rw [← e2] at h3
        obtain ⟨b, o, hA, _, hr⟩ := h3 h0
        exact ⟨b, o, hA, hr⟩))
    | (at_builtin; (refine wpList_append_E rfl (.tmp 40) (.tmp 44) rfl w3.heap.size _ 0 [] rfl HOW.out A n cc (l.take n) rfl HM.out HR1.out (by omega) hbase ?_; intro v2 w7 hown7 hg7 hat7; have hb7 : Below w3.heap.size w5 w7 := (Below.refl _ _).grown hg7 hbase (fun q hq => (HOW.out.lt q hq).1); obtain ⟨g2, cap2, hv2⟩ := own_shape hown7; rw [hv2])))
  go_ret2
  rw [hv2, Nat.zero_add, List.nil_append] at hown7
  exact ⟨_, rfl, SlE.of_own (xs := l.take n) (by rw [HM.out]; exact hown7) (fun e he => hok e (List.mem_of_mem_take he)), hbw5.trans (hb7.mono (by omega))⟩

omit hf in
set_option maxHeartbeats 1000000 in
theorem circuit_Truncate_size (K B N M C : Int) (n : Nat) (A : Option Addr) (len cp : Nat) (w : World) (hnl : ¬ len = n)
    (HC : Hid (∀ wz, Calls Try.prog 59 #[.agg #[.int .u8 K, .int .u8 f, .int .i64 B, .int .i64 N, .int .i64 M, .int .i64 C]] wz (RetC 0 wz)))
    (HI : Hid (∀ wz, Calls Try.prog 45 #[.agg #[.int .u8 K, .int .u8 f, .int .i64 B, .int .i64 N, .int .i64 M, .int .i64 C]] wz (RetI n wz))) :
    Calls Try.prog 41 #[.agg #[.int .u8 K, .int .u8 f, .int .i64 B, .int .i64 N, .int .i64 M, .int .i64 C], .slice A len cp] w (RetNil 9 w) := by
  have hb00 : Below w.heap.size w w := Below.refl _ _
  go_enter Try.func41, Try.ntmps41
  go_upto_region 1 with fail
  have hx := Vs.new w [.int .u8 K, .int .u8 f, .int .i64 B, .int .i64 N, .int .i64 M, .int .i64 C] #[.int .u8 K, .int .u8 f, .int .i64 B, .int .i64 N, .int .i64 M, .int .i64 C] 60 rfl
  have hbA : Below w.heap.size w (w.alloc (.cells #[.int .u8 K, .int .u8 f, .int .i64 B, .int .i64 N, .int .i64 M, .int .i64 C] 60)) := by repeat (first | exact Below.refl _ _ | with_reducible assumption | (refine bl_alloc ?_ (Nat.le_refl _) _))
  replace hb00 := bl_call hb00 (Nat.le_refl _) hbA
  clear hbA
  generalize w.alloc (.cells #[.int .u8 K, .int .u8 f, .int .i64 B, .int .i64 N, .int .i64 M, .int .i64 C] 60) = w1 at hb00 hx ⊢
  obtain ⟨⟨x0, x1, x2, x3, x4, x5⟩, ⟨x6, x7, x8, x9, x10, x11⟩, x12⟩ := hx.get6
  go_wp2_with (first
    | (go_at_call 59; refine (HC.out _).mono ?_; rintro e w2 ⟨rfl, hb2⟩; replace hb00 := bl_call hb00 (Nat.le_refl _) hb2; replace hx := hx.call hb2; obtain ⟨⟨x0, x1, x2, x3, x4, x5⟩, ⟨x6, x7, x8, x9, x10, x11⟩, x12⟩ := hx.get6)
    | (go_at_call 45; refine (HI.out _).mono ?_; rintro e w3 ⟨rfl, hb3⟩; replace hb00 := bl_call hb00 (Nat.le_refl _) hb3; replace hx := hx.call hb3; obtain ⟨⟨x0, x1, x2, x3, x4, x5⟩, ⟨x6, x7, x8, x9, x10, x11⟩, x12⟩ := hx.get6))
  go_ret2
  exact ⟨rfl, hb00⟩

omit hf in
theorem CK.nout_nin (y : CK) (hk : ¬ (y.k = 2 ∨ y.k = 3)) : y.nout ≤ y.nin := by
  cases y with
  | count => exact Nat.le_refl _
  | sum b => exact absurd (.inl rfl) hk
  | vec b l c => exact absurd (.inr rfl) hk
  | hist l c => exact Nat.le_refl _
  | multi l m c => exact Nat.le_add_right _ _

/-- what of whatever vector of the right length is summed -/
theorem circuit_Truncate (y : CK) (hy : y.ok) (hcalls : ¬ 511 < y.calls) (vl : Value) (l : List E) (w : World) (hl : SlE w w.heap.size vl l) (hlen : l.length = y.nin) :
    Calls Try.prog 41 #[y.val f, vl] w (RetSE (truncE f y l) w) := by
  have HC : Hid (∀ wz, Calls Try.prog 59 #[y.val f] wz (RetC 0 wz)) := by
    intro wz
    have h := circuit_Check_ok hf y hy wz
    rwa [CK.code_ok hcalls] at h
  have HI : Hid (∀ wz, Calls Try.prog 45 #[y.val f] wz (RetI l.length wz)) := by
    intro wz
    rw [hlen]
    exact circuit_In f y hy wz
  have HO := Lib.hid (fun wz => circuit_Out f y hy wz)
  have hnin := CK.nin_le hy
  cases y with
  | sum b => exact circuit_Truncate_nums2 hf b 1 0 0 hy.1 hy.2 (by omega) 0 vl l w hl (by rw [hlen]; exact (Nat.one_mul b).symm) HC HI
  | vec b n c => exact circuit_Truncate_nums3 hf b n 0 c hy.1.1 hy.1.2 hy.2.1.2 n vl l w hl hlen HC HI
  | count => exact circuit_Truncate_first 1 0 0 0 0 1 (by decide) (by decide) vl l w hl (by rw [hlen]; exact CK.nout_nin .count (by decide)) (by rw [hlen]; exact hnin) HC HI HO
  | hist n c => exact circuit_Truncate_first 4 0 n 0 c n (by decide) (by decide) vl l w hl (by rw [hlen]; exact Nat.le_refl _) (by rw [hlen]; exact hnin) HC HI HO
  | multi n m c => exact circuit_Truncate_first 5 0 n m c n (by decide) (by decide) vl l w hl (by rw [hlen]; exact Nat.le_add_right _ _) (by rw [hlen]; exact hnin) HC HI HO

end

end Go.Proofs.Ytiphahbeedeebaa

namespace Go.Proofs.Ytiphahbeedeebaa
open Go.RowKit Fm
set_option linter.unusedVariables false
set_option maxRecDepth 100000

/-- a slice of elements comes back -/
def RetS1 (zs : List E) (w : World) (e : Ending) (w' : World) : Prop := ∃ v, e = .returned v ∧ SlE w' w'.heap.size v zs ∧ Below w.heap.size w w'

section
variable {f : Nat} (hf : IsF f)
include hf

omit hf in
set_option maxHeartbeats 4000000 in
theorem ref9_Truncate_first (y : CK) (hy : y.ok) (hk : (y.k = 2 ∨ y.k = 3) → False) (vl : Value) (l : KL f) (w : World) (hl : SlK w w.heap.size vl l) (hlen : l.length = y.nin) :
    Calls Try.prog 47 #[y.rval f, vl] w (RetS1 ((esK l).take y.nout) w) := by
  have HO := Lib.hid (fun wz => ref9_Out f y hy wz)
  have HSL := Lib.hid hl.toE
  have hol := CK.nout_le hy
  have hle : y.nout ≤ l.length := by
    rw [hlen]
    cases y with
    | count => exact Nat.le_refl _
    | sum b => exact absurd (.inl rfl) hk
    | vec b l c => exact absurd (.inr rfl) hk
    | hist l c => exact Nat.le_refl _
    | multi l m c => exact Nat.le_add_right _ _
  have hk2 : ((y.k : Nat) : Int) ≠ 2 ∧ ((y.k : Nat) : Int) ≠ 3 := ⟨fun h => hk (.inl (by omega)), fun h => hk (.inr (by omega))⟩
  obtain ⟨A, cc, rfl, hcc, hcm, hA⟩ := hl
  unfold CK.rval at HO ⊢
  generalize y.nout = n at *
  obtain ⟨K, hK⟩ : ∃ K : Int, ((y.k : Nat) : Int) = K := ⟨_, rfl⟩
  obtain ⟨B, hB⟩ : ∃ K : Int, ((y.b : Nat) : Int) = K := ⟨_, rfl⟩
  obtain ⟨N, hN⟩ : ∃ K : Int, ((y.l : Nat) : Int) = K := ⟨_, rfl⟩
  obtain ⟨M, hM⟩ : ∃ K : Int, ((y.m : Nat) : Int) = K := ⟨_, rfl⟩
  obtain ⟨C, hC⟩ : ∃ K : Int, ((y.c : Nat) : Int) = K := ⟨_, rfl⟩
  rw [hK] at hk2
  rw [hK, hB, hN, hM, hC] at HO ⊢
  clear hK hB hN hM hC hlen hy hA hk
  obtain ⟨hk2, hk3⟩ := hk2
  have k1 : (K == 2) = false := by simpa using hk2
  have k2 : (K != 2) = true := by simpa using hk2
  have k3 : (K == 3) = false := by simpa using hk3
  have k4 : (K != 3) = true := by simpa using hk3
  have hn0 : (0 : Int) ≤ (n : Int) := by omega
  have hnc : n ≤ cc := by omega
  have hb00 : Below w.heap.size w w := Below.refl _ _
  go_enter Try.func47, Try.ntmps47
  go_upto_region 1 with fail
  have hx := Vs.new w [.int .i64 K, .int .i64 f, .int .i64 B, .int .i64 N, .int .i64 M, .int .i64 C] #[.int .i64 K, .int .i64 f, .int .i64 B, .int .i64 N, .int .i64 M, .int .i64 C] 72 rfl
  have hbA : Below w.heap.size w (w.alloc (.cells #[.int .i64 K, .int .i64 f, .int .i64 B, .int .i64 N, .int .i64 M, .int .i64 C] 72)) := by repeat (first | exact Below.refl _ _ | with_reducible assumption | (refine bl_alloc ?_ (Nat.le_refl _) _))
  replace hb00 := bl_call hb00 (Nat.le_refl _) hbA
  clear hbA
  generalize w.alloc (.cells #[.int .i64 K, .int .i64 f, .int .i64 B, .int .i64 N, .int .i64 M, .int .i64 C] 72) = w1 at hb00 hx ⊢
  obtain ⟨⟨x0, x1, x2, x3, x4, x5⟩, ⟨x6, x7, x8, x9, x10, x11⟩, x12⟩ := hx.get6
  go_wp2_with (first
    | (go_at_call 62; refine (HO.out _).mono ?_; rintro e w2 ⟨rfl, hb2⟩; replace hb00 := bl_call hb00 (Nat.le_refl _) hb2; replace hx := hx.call hb2; obtain ⟨⟨x0, x1, x2, x3, x4, x5⟩, ⟨x6, x7, x8, x9, x10, x11⟩, x12⟩ := hx.get6))
  go_ret
  refine ⟨_, rfl, ?_, hb00⟩
  have h := (HSL.out.later hb00)
  rw [← esK_length l] at h
  exact h.takeN (by rw [esK_length]; exact hle)

set_option maxHeartbeats 8000000 in
theorem ref9_Truncate_nums2 (b n m c : Nat) (hb1 : 1 ≤ b) (hb2 : b ≤ 32) (hn2 : n ≤ 64) (N : Int) (vl : Value) (l : KL f) (w : World) (hl : SlK w w.heap.size vl l) (hlen : l.length = n * b)
    (HO : Hid (∀ wz, Calls Try.prog 62 #[.agg #[.int .i64 2, .int .i64 f, .int .i64 b, .int .i64 N, .int .i64 m, .int .i64 c]] wz (RetI n wz))) :
    Calls Try.prog 47 #[.agg #[.int .i64 2, .int .i64 f, .int .i64 b, .int .i64 N, .int .i64 m, .int .i64 c], vl] w (RetS1 (numsE (f := f) b n (esK l)) w) := by
  have HSL := Lib.hid hl.toE
  obtain ⟨A, cc, rfl, hcc, hcm, hA⟩ := hl
  have hfb0 : (1 : Int) ≤ (f : Int) := by rcases hf.or with rfl | rfl <;> omega
  have hfb1 : (f : Int) ≤ 2 := by rcases hf.or with rfl | rfl <;> omega
  have hl2 : l.length ≤ 2048 := by rw [hlen]; exact Nat.le_trans (Nat.mul_le_mul hn2 hb2) (by omega)
  have HLEN := Lib.hid hlen
  have hb00 : Below w.heap.size w w := Below.refl _ _
  clear hlen
  go_enter Try.func47, Try.ntmps47
  go_upto_region 1 with fail
  have hx := Vs.new w [.int .i64 2, .int .i64 f, .int .i64 b, .int .i64 N, .int .i64 m, .int .i64 c] #[.int .i64 2, .int .i64 f, .int .i64 b, .int .i64 N, .int .i64 m, .int .i64 c] 72 rfl
  have hbA : Below w.heap.size w (w.alloc (.cells #[.int .i64 2, .int .i64 f, .int .i64 b, .int .i64 N, .int .i64 m, .int .i64 c] 72)) := by repeat (first | exact Below.refl _ _ | with_reducible assumption | (refine bl_alloc ?_ (Nat.le_refl _) _))
  replace hb00 := bl_call hb00 (Nat.le_refl _) hbA
  clear hbA
  generalize w.alloc (.cells #[.int .i64 2, .int .i64 f, .int .i64 b, .int .i64 N, .int .i64 m, .int .i64 c] 72) = w1 at hb00 hx ⊢
  obtain ⟨⟨x0, x1, x2, x3, x4, x5⟩, ⟨x6, x7, x8, x9, x10, x11⟩, x12⟩ := hx.get6
  have hsz : w.heap.size + 1 ≤ w1.heap.size := hx.lt
  go_wp2_with fail
  go_loopw [5, 6] (fun v5 i wr => ∃ (j : Nat) (A' : Option Addr) (cp : Nat), j ≤ n ∧ i = .int .i64 j ∧ v5 = .slice A' j cp ∧ Vs wr w.heap.size [.int .i64 2, .int .i64 f, .int .i64 b, .int .i64 N, .int .i64 m, .int .i64 c] ∧
    wr.ownsRow (w.heap.size + 1) 41 2 (.slice A' j cp) j (cellsE ((numsE (f := f) b n (esK l)).take j)) ∧ Below w.heap.size w wr ∧ w.heap.size + 1 ≤ wr.heap.size) (fun _ i _ => n - (intOf i).toNat)
  case atStart => exact ⟨0, none, 0, Nat.zero_le _, rfl, rfl, hx, World.ownsRow_nil _ _ _ _, hb00, hsz⟩
  case round =>
    clear hx hb00 hsz
    obtain ⟨j, A', cp, hj, rfl, rfl, hx, hown, hbw, hsz⟩ := hrel
    obtain ⟨⟨x0, x1, x2, x3, x4, x5⟩, ⟨x6, x7, x8, x9, x10, x11⟩, x12⟩ := hx.get6
    by_cases hjn : j < n
    · obtain ⟨p, hp⟩ : ∃ p, j * b = p := ⟨_, rfl⟩
      obtain ⟨p2, hp2⟩ : ∃ p2, p + b = p2 := ⟨_, rfl⟩
      have hpi : (j : Int) * (b : Int) = (p : Int) := by rw [← hp]; exact (Int.natCast_mul j b).symm
      have hpi2 : ((j : Int) + 1) * (b : Int) = (p2 : Int) := by rw [Int.add_mul, hpi, Int.one_mul]; omega
      have hple : p2 ≤ l.length := by
        rw [HLEN.out, ← hp2, ← hp, ← Nat.succ_mul]
        exact Nat.mul_le_mul_right b hjn
      obtain ⟨bl, o, rfl, hBl, _⟩ := hA (by omega)
      have hpl : p < l.length := by omega
      have HE : Hid (((esK l).drop p).take b = esK ((l.drop p).take b)) := by
        show ((esK l).drop p).take b = esK ((l.drop p).take b)
        unfold esK
        rw [List.map_take, List.map_drop]
      have HS2 : Hid (∀ wz, Below w.heap.size w wz → SlK wz wz.heap.size (.slice (some ⟨bl, o + p * 2, none⟩) b (cc - p)) ((l.drop p).take b)) := by
        intro wz hb
        have h := ((HSL.out.dropN hpl).takeN (n := b) (by omega))
        rw [HE.out] at h
        exact ((h.below hb).mono hb.size).toK
      have hbl2 : ((l.drop p).take b).length ≤ 1099511627776 := by rw [List.length_take]; omega
      obtain ⟨s, hs⟩ : ∃ s, knum ((l.drop p).take b) = s := ⟨_, rfl⟩
      have HNUM : Hid (∀ wz, Below w.heap.size w wz → Calls Try.prog 103 #[.int .i64 f, .slice (some ⟨bl, o + p * 2, none⟩) b (cc - p)] wz (RetK s wz)) := by
        intro wz hb
        rw [← hs]
        exact ref9_Number hf _ _ wz (HS2.out wz hb) hbl2
      have HAT : Hid ((numsE (f := f) b n (esK l))[j]? = some (eK s)) := by
        show (numsE (f := f) b n (esK l))[j]? = some (eK s)
        rw [numsE_at b n _ j hjn, ← hs, ← hp, kEs_esK]
      have hb0 : (0 : Int) ≤ (p : Int) := by omega
      have hpp : (p : Int) ≤ (p2 : Int) := by omega
      have hppn : p ≤ p2 := by omega
      have hbc : p2 ≤ cc := by omega
      have hbc2 : (p2 : Int) ≤ (cc : Int) := by omega
      have hpc : ¬ (cc = p) := by omega
      have hd1 : (p2 : Int) - (p : Int) = (b : Int) := by omega
      have hd2 : p2 - p = b := by omega
      have hw1 : IntKind.i64.wrap ((j : Int) + 1) = (j : Int) + 1 := IntWalk.i64_in _ (by omega)
      have hw2 : IntKind.i64.wrap ((p : Int)) = (p : Int) := IntWalk.i64_in _ (by omega)
      have hw3 : IntKind.i64.wrap ((p2 : Int)) = (p2 : Int) := IntWalk.i64_in _ (by omega)
      clear hs hbl2 hp hp2
      go_upto_region 7 with (first
        | (go_at_call 62; refine (HO.out _).mono ?_; rintro e w5 ⟨rfl, hb5⟩; replace hbw := bl_call hbw (Nat.le_refl _) hb5; replace hx := hx.call hb5; replace hown := own_call hown hb5; clear x0 x1 x2 x3 x4 x5 x6 x7 x8 x9 x10 x11 x12; clear hb5; obtain ⟨⟨x0, x1, x2, x3, x4, x5⟩, ⟨x6, x7, x8, x9, x10, x11⟩, x12⟩ := hx.get6))
      refine region_G (n := 16) (m := 18) (f := 16) (by kernel_rfl) (by kernel_rfl) rfl ?_
      refine WpG.takeD 0 (some 25) (v := ?_) rfl rfl (by kernel_rfl) (fun _ _ _ h => h) (.val rfl (fun wz hwz => ?_)) ?_
      rotate_left
      · go_simp; try (with_reducible rfl)
      (simp only [Act.put]); (try simp only [List.setIfInBounds_toArray]); (try simp only [List.set_cons_succ]); (try simp only [List.set_cons_zero])
      refine WpG.takeD 1 (some 26) (v := ?_) rfl rfl (by kernel_rfl) (fun _ _ _ h => h) (.val rfl (fun wz hwz => ?_)) ?_
      rotate_left
      · go_simp; try (with_reducible rfl)
      (simp only [Act.put]); (try simp only [List.setIfInBounds_toArray]); (try simp only [List.set_cons_succ]); (try simp only [List.set_cons_zero])
      refine WpG.takeD 2 (some 27) (v := ?_) rfl rfl (by kernel_rfl) (fun _ _ _ h => h) (.val rfl (fun wz hwz => ?_)) ?_
      rotate_left
      · (obtain ⟨hcz, hfz⟩ := bcell (hwz); go_simp; try (with_reducible rfl))
      (simp only [Act.put]); (try simp only [List.setIfInBounds_toArray]); (try simp only [List.set_cons_succ]); (try simp only [List.set_cons_zero])
      refine WpG.takeD 3 (some 28) (v := ?_) rfl rfl (by kernel_rfl) (fun _ _ _ h => h) (.val rfl (fun wz hwz => ?_)) ?_
      rotate_left
      · go_simp; try (with_reducible rfl)
      (simp only [Act.put]); (try simp only [List.setIfInBounds_toArray]); (try simp only [List.set_cons_succ]); (try simp only [List.set_cons_zero])
      refine WpG.takeD 4 (some 29) (v := ?_) rfl rfl (by kernel_rfl) (fun _ _ _ h => h) (.val rfl (fun wz hwz => ?_)) ?_
      rotate_left
      · go_simp; try (with_reducible rfl)
      (simp only [Act.put]); (try simp only [List.setIfInBounds_toArray]); (try simp only [List.set_cons_succ]); (try simp only [List.set_cons_zero])
      refine WpG.takeD 5 (some 30) (v := ?_) rfl rfl (by kernel_rfl) (fun _ _ _ h => h) (.val rfl (fun wz hwz => ?_)) ?_
      rotate_left
      · go_simp; try (with_reducible rfl)
      (simp only [Act.put]); (try simp only [List.setIfInBounds_toArray]); (try simp only [List.set_cons_succ]); (try simp only [List.set_cons_zero])
      refine WpG.takeD 6 (some 31) (v := ?_) rfl rfl (by kernel_rfl) (fun _ _ _ h => h) (.val rfl (fun wz hwz => ?_)) ?_
      rotate_left
      · (obtain ⟨hcz, hfz⟩ := bcell (hwz); go_simp; try (with_reducible rfl))
      (simp only [Act.put]); (try simp only [List.setIfInBounds_toArray]); (try simp only [List.set_cons_succ]); (try simp only [List.set_cons_zero])
      refine WpG.takeD 7 (some 32) (v := ?_) rfl rfl (by kernel_rfl) (fun _ _ _ h => h) (.val rfl (fun wz hwz => ?_)) ?_
      rotate_left
      · go_simp; try (with_reducible rfl)
      (simp only [Act.put]); (try simp only [List.setIfInBounds_toArray]); (try simp only [List.set_cons_succ]); (try simp only [List.set_cons_zero])
      refine WpG.takeD 8 (some 33) (v := ?_) rfl rfl (by kernel_rfl) (fun _ _ _ h => h) (.val rfl (fun wz hwz => ?_)) ?_
      rotate_left
      · go_simp; try (with_reducible rfl)
      (simp only [Act.put]); (try simp only [List.setIfInBounds_toArray]); (try simp only [List.set_cons_succ]); (try simp only [List.set_cons_zero])
      refine WpG.takeD 9 (some 34) (v := ?_) rfl rfl (by kernel_rfl) (fun _ _ _ h => h) (.val rfl (fun wz hwz => ?_)) ?_
      rotate_left
      · go_simp; try (with_reducible rfl)
      (simp only [Act.put]); (try simp only [List.setIfInBounds_toArray]); (try simp only [List.set_cons_succ]); (try simp only [List.set_cons_zero])
      refine WpG.takeD 10 (some 35) (v := ?_) rfl rfl (by kernel_rfl) (fun _ _ _ h => h) (.val rfl (fun wz hwz => ?_)) ?_
      rotate_left
      · go_simp; try (with_reducible rfl)
      (simp only [Act.put]); (try simp only [List.setIfInBounds_toArray]); (try simp only [List.set_cons_succ]); (try simp only [List.set_cons_zero])
      refine WpG.takeD 11 (some 36) (v := ?_) rfl rfl (by kernel_rfl) (fun _ _ _ h => h) (.val rfl (fun wz hwz => ?_)) ?_
      rotate_left
      · (obtain ⟨hcz, hfz⟩ := bcell (hwz); go_simp; try (with_reducible rfl))
      (simp only [Act.put]); (try simp only [List.setIfInBounds_toArray]); (try simp only [List.set_cons_succ]); (try simp only [List.set_cons_zero])
      refine WpG.takeD 12 (some 37) (v := ?_) rfl rfl (by kernel_rfl) (fun _ _ _ h => h) (.val rfl (fun wz hwz => ?_)) ?_
      rotate_left
      · go_simp; try (with_reducible rfl)
      (simp only [Act.put]); (try simp only [List.setIfInBounds_toArray]); (try simp only [List.set_cons_succ]); (try simp only [List.set_cons_zero])
      refine WpG.takeD 13 (some 38) (v := ?_) rfl rfl (by kernel_rfl) (fun _ _ _ h => h) (.val rfl (fun wz hwz => ?_)) ?_
      rotate_left
      · go_simp; try (with_reducible rfl)
      (simp only [Act.put]); (try simp only [List.setIfInBounds_toArray]); (try simp only [List.set_cons_succ]); (try simp only [List.set_cons_zero])
      refine WpG.takeD 14 (some 39) rfl rfl (by kernel_rfl) (fun _ _ _ h => h) (.call rfl (fun wz hwz => HNUM.out wz (hbw.trans ((hwz).mono hbw.size))) (fun wz hwz => ?_)) ?_
      · go_simp; try (with_reducible rfl)
      (simp only [Act.put]); (try simp only [List.setIfInBounds_toArray]); (try simp only [List.set_cons_succ]); (try simp only [List.set_cons_zero])
      refine WpG.oneD 15 (some 40) rfl rfl (by kernel_rfl) (fun g : Nat => Value.slice (some ⟨g, 0, none⟩) 1 1) (fun g wz => w5.heap.size ≤ g ∧ BlkE wz g [eK s]) (fun _ _ _ h hb => ⟨h.1, h.2.call hb⟩) (Fresh.slice 1 1 [.int .u64 (lo s), .int .u64 (hi s)] 41 rfl (fun wz hwz => (hwz).size) (fun wz hwz => by go_simp; try (with_reducible rfl)) (R := fun g wz => BlkE wz g [eK s]) (fun wz hwz => BlkE.new wz _ _ rfl)) (fun sb w0 hw0 hR0 => ?_)
      (simp only [Act.put]); (try simp only [List.setIfInBounds_toArray]); (try simp only [List.set_cons_succ]); (try simp only [List.set_cons_zero])
      refine WpG.done (by kernel_rfl) (fun w6 hS => ?_)
      (try simp only [List.drop_succ_cons]); (try simp only [List.drop_zero]); (try simp only [Nat.reduceSub]); (try simp only [List.take_succ_cons]); (try simp only [List.take_zero])
      obtain ⟨hb6, hsb, hBs⟩ := hS
      clear x0 x1 x2 x3 x4 x5 x6 x7 x8 x9 x10 x11 x12
      have hz5 : w.heap.size < w5.heap.size := hx.lt
      have hz6 := hb6.size
      replace hbw := bl_call hbw (Nat.le_refl _) hb6
      replace hx := hx.call hb6
      replace hown := own_call hown hb6
      obtain ⟨⟨x0, x1, x2, x3, x4, x5⟩, ⟨x6, x7, x8, x9, x10, x11⟩, x12⟩ := hx.get6
      obtain ⟨zs, hzs⟩ : ∃ zs, (numsE (f := f) b n (esK l)).take j = zs := ⟨_, rfl⟩
      rw [hzs] at hown
      have HOW := Lib.hid hown
      have HT : Hid (cellsE ((numsE (f := f) b n (esK l)).take (j + 1)) = cellsE (zs ++ [eK s])) := by
        show cellsE ((numsE (f := f) b n (esK l)).take (j + 1)) = _
        rw [List.take_add_one, HAT.out, hzs]
        rfl
      have HR1 : Hid (0 < 1 → ∃ b o, (some ⟨sb, 0, none⟩ : Option Addr) = some ⟨b, o, none⟩ ∧ RowE w6 b o [eK s]) := fun _ => ⟨_, _, rfl, hBs.rowE⟩
      have hk1 : j + 1 ≤ 1099511627776 := by omega
      have hbase : w.heap.size + 1 ≤ w6.heap.size := by omega
      clear hown hzs hb6 hBs hR0 hw0 hpi hpi2 hw1 hw2 hw3 hd1
      go_wp2_with (at_builtin; (refine wpList_append_E rfl (.tmp 25) (.tmp 40) rfl (w.heap.size + 1) _ j zs rfl HOW.out (some ⟨sb, 0, none⟩) 1 1 [eK s] rfl rfl HR1.out hk1 hbase ?_; intro v2 w7 hown7 hg7 hat7; have hb7 : Below (w.heap.size + 1) w6 w7 := (Below.refl _ _).grown hg7 hbase (fun q hq => (HOW.out.lt q hq).1); obtain ⟨g2, cap2, hv2⟩ := own_slice hown7; rw [hv2]))
      rw [hv2, ← HT.out] at hown7
      have hx7 := hx.belowB hb7 (by omega)
      have hbw7 : Below w.heap.size w w7 := hbw.trans (hb7.mono (by omega))
      have hz7 := hb7.size
      go_roundw
      case rel => exact ⟨j + 1, _, cap2, by omega, by go_num, rfl, hx7, hown7, hbw7, by omega⟩
      case measure => simp [intOf]; omega
    · obtain rfl : j = n := by omega
      have HZL := Lib.hid (numsE_length (f := f) b j (esK l))
      rw [List.take_of_length_le (by rw [HZL.out]; exact Nat.le_refl _)] at hown
      go_wp2_with (first
        | (go_at_call 62; refine (HO.out _).mono ?_; rintro e w5 ⟨rfl, hb5⟩; replace hbw := bl_call hbw (Nat.le_refl _) hb5; replace hx := hx.call hb5; replace hown := own_call hown hb5))
      go_ret
      exact ⟨_, rfl, SlE.of_own (xs := numsE (f := f) b j (esK l)) (by rw [HZL.out]; exact hown) (numsE_ok b j _), hbw⟩
set_option maxHeartbeats 8000000 in
theorem ref9_Truncate_nums3 (b n m c : Nat) (hb1 : 1 ≤ b) (hb2 : b ≤ 32) (hn2 : n ≤ 64) (N : Int) (vl : Value) (l : KL f) (w : World) (hl : SlK w w.heap.size vl l) (hlen : l.length = n * b)
    (HO : Hid (∀ wz, Calls Try.prog 62 #[.agg #[.int .i64 3, .int .i64 f, .int .i64 b, .int .i64 N, .int .i64 m, .int .i64 c]] wz (RetI n wz))) :
    Calls Try.prog 47 #[.agg #[.int .i64 3, .int .i64 f, .int .i64 b, .int .i64 N, .int .i64 m, .int .i64 c], vl] w (RetS1 (numsE (f := f) b n (esK l)) w) := by
  have HSL := Lib.hid hl.toE
  obtain ⟨A, cc, rfl, hcc, hcm, hA⟩ := hl
  have hfb0 : (1 : Int) ≤ (f : Int) := by rcases hf.or with rfl | rfl <;> omega
  have hfb1 : (f : Int) ≤ 2 := by rcases hf.or with rfl | rfl <;> omega
  have hl2 : l.length ≤ 2048 := by rw [hlen]; exact Nat.le_trans (Nat.mul_le_mul hn2 hb2) (by omega)
  have HLEN := Lib.hid hlen
  have hb00 : Below w.heap.size w w := Below.refl _ _
  clear hlen
  go_enter Try.func47, Try.ntmps47
  go_upto_region 1 with fail
  have hx := Vs.new w [.int .i64 3, .int .i64 f, .int .i64 b, .int .i64 N, .int .i64 m, .int .i64 c] #[.int .i64 3, .int .i64 f, .int .i64 b, .int .i64 N, .int .i64 m, .int .i64 c] 72 rfl
  have hbA : Below w.heap.size w (w.alloc (.cells #[.int .i64 3, .int .i64 f, .int .i64 b, .int .i64 N, .int .i64 m, .int .i64 c] 72)) := by repeat (first | exact Below.refl _ _ | with_reducible assumption | (refine bl_alloc ?_ (Nat.le_refl _) _))
  replace hb00 := bl_call hb00 (Nat.le_refl _) hbA
  clear hbA
  generalize w.alloc (.cells #[.int .i64 3, .int .i64 f, .int .i64 b, .int .i64 N, .int .i64 m, .int .i64 c] 72) = w1 at hb00 hx ⊢
  obtain ⟨⟨x0, x1, x2, x3, x4, x5⟩, ⟨x6, x7, x8, x9, x10, x11⟩, x12⟩ := hx.get6
  have hsz : w.heap.size + 1 ≤ w1.heap.size := hx.lt
  go_wp2_with fail
  go_loopw [5, 6] (fun v5 i wr => ∃ (j : Nat) (A' : Option Addr) (cp : Nat), j ≤ n ∧ i = .int .i64 j ∧ v5 = .slice A' j cp ∧ Vs wr w.heap.size [.int .i64 3, .int .i64 f, .int .i64 b, .int .i64 N, .int .i64 m, .int .i64 c] ∧
    wr.ownsRow (w.heap.size + 1) 41 2 (.slice A' j cp) j (cellsE ((numsE (f := f) b n (esK l)).take j)) ∧ Below w.heap.size w wr ∧ w.heap.size + 1 ≤ wr.heap.size) (fun _ i _ => n - (intOf i).toNat)
  case atStart => exact ⟨0, none, 0, Nat.zero_le _, rfl, rfl, hx, World.ownsRow_nil _ _ _ _, hb00, hsz⟩
  case round =>
    clear hx hb00 hsz
    obtain ⟨j, A', cp, hj, rfl, rfl, hx, hown, hbw, hsz⟩ := hrel
    obtain ⟨⟨x0, x1, x2, x3, x4, x5⟩, ⟨x6, x7, x8, x9, x10, x11⟩, x12⟩ := hx.get6
    by_cases hjn : j < n
    · obtain ⟨p, hp⟩ : ∃ p, j * b = p := ⟨_, rfl⟩
      obtain ⟨p2, hp2⟩ : ∃ p2, p + b = p2 := ⟨_, rfl⟩
      have hpi : (j : Int) * (b : Int) = (p : Int) := by rw [← hp]; exact (Int.natCast_mul j b).symm
      have hpi2 : ((j : Int) + 1) * (b : Int) = (p2 : Int) := by rw [Int.add_mul, hpi, Int.one_mul]; omega
      have hple : p2 ≤ l.length := by
        rw [HLEN.out, ← hp2, ← hp, ← Nat.succ_mul]
        exact Nat.mul_le_mul_right b hjn
      obtain ⟨bl, o, rfl, hBl, _⟩ := hA (by omega)
      have hpl : p < l.length := by omega
      have HE : Hid (((esK l).drop p).take b = esK ((l.drop p).take b)) := by
        show ((esK l).drop p).take b = esK ((l.drop p).take b)
        unfold esK
        rw [List.map_take, List.map_drop]
      have HS2 : Hid (∀ wz, Below w.heap.size w wz → SlK wz wz.heap.size (.slice (some ⟨bl, o + p * 2, none⟩) b (cc - p)) ((l.drop p).take b)) := by
        intro wz hb
        have h := ((HSL.out.dropN hpl).takeN (n := b) (by omega))
        rw [HE.out] at h
        exact ((h.below hb).mono hb.size).toK
      have hbl2 : ((l.drop p).take b).length ≤ 1099511627776 := by rw [List.length_take]; omega
      obtain ⟨s, hs⟩ : ∃ s, knum ((l.drop p).take b) = s := ⟨_, rfl⟩
      have HNUM : Hid (∀ wz, Below w.heap.size w wz → Calls Try.prog 103 #[.int .i64 f, .slice (some ⟨bl, o + p * 2, none⟩) b (cc - p)] wz (RetK s wz)) := by
        intro wz hb
        rw [← hs]
        exact ref9_Number hf _ _ wz (HS2.out wz hb) hbl2
      have HAT : Hid ((numsE (f := f) b n (esK l))[j]? = some (eK s)) := by
        show (numsE (f := f) b n (esK l))[j]? = some (eK s)
        rw [numsE_at b n _ j hjn, ← hs, ← hp, kEs_esK]
      have hb0 : (0 : Int) ≤ (p : Int) := by omega
      have hpp : (p : Int) ≤ (p2 : Int) := by omega
      have hppn : p ≤ p2 := by omega
      have hbc : p2 ≤ cc := by omega
      have hbc2 : (p2 : Int) ≤ (cc : Int) := by omega
      have hpc : ¬ (cc = p) := by omega
      have hd1 : (p2 : Int) - (p : Int) = (b : Int) := by omega
      have hd2 : p2 - p = b := by omega
      have hw1 : IntKind.i64.wrap ((j : Int) + 1) = (j : Int) + 1 := IntWalk.i64_in _ (by omega)
      have hw2 : IntKind.i64.wrap ((p : Int)) = (p : Int) := IntWalk.i64_in _ (by omega)
      have hw3 : IntKind.i64.wrap ((p2 : Int)) = (p2 : Int) := IntWalk.i64_in _ (by omega)
      clear hs hbl2 hp hp2
      go_upto_region 7 with (first
        | (go_at_call 62; refine (HO.out _).mono ?_; rintro e w5 ⟨rfl, hb5⟩; replace hbw := bl_call hbw (Nat.le_refl _) hb5; replace hx := hx.call hb5; replace hown := own_call hown hb5; clear x0 x1 x2 x3 x4 x5 x6 x7 x8 x9 x10 x11 x12; clear hb5; obtain ⟨⟨x0, x1, x2, x3, x4, x5⟩, ⟨x6, x7, x8, x9, x10, x11⟩, x12⟩ := hx.get6))
      refine region_G (n := 16) (m := 18) (f := 16) (by kernel_rfl) (by kernel_rfl) rfl ?_
      refine WpG.takeD 0 (some 25) (v := ?_) rfl rfl (by kernel_rfl) (fun _ _ _ h => h) (.val rfl (fun wz hwz => ?_)) ?_
      rotate_left
      · go_simp; try (with_reducible rfl)
      (simp only [Act.put]); (try simp only [List.setIfInBounds_toArray]); (try simp only [List.set_cons_succ]); (try simp only [List.set_cons_zero])
      refine WpG.takeD 1 (some 26) (v := ?_) rfl rfl (by kernel_rfl) (fun _ _ _ h => h) (.val rfl (fun wz hwz => ?_)) ?_
      rotate_left
      · go_simp; try (with_reducible rfl)
      (simp only [Act.put]); (try simp only [List.setIfInBounds_toArray]); (try simp only [List.set_cons_succ]); (try simp only [List.set_cons_zero])
      refine WpG.takeD 2 (some 27) (v := ?_) rfl rfl (by kernel_rfl) (fun _ _ _ h => h) (.val rfl (fun wz hwz => ?_)) ?_
      rotate_left
      · (obtain ⟨hcz, hfz⟩ := bcell (hwz); go_simp; try (with_reducible rfl))
      (simp only [Act.put]); (try simp only [List.setIfInBounds_toArray]); (try simp only [List.set_cons_succ]); (try simp only [List.set_cons_zero])
      refine WpG.takeD 3 (some 28) (v := ?_) rfl rfl (by kernel_rfl) (fun _ _ _ h => h) (.val rfl (fun wz hwz => ?_)) ?_
      rotate_left
      · go_simp; try (with_reducible rfl)
      (simp only [Act.put]); (try simp only [List.setIfInBounds_toArray]); (try simp only [List.set_cons_succ]); (try simp only [List.set_cons_zero])
      refine WpG.takeD 4 (some 29) (v := ?_) rfl rfl (by kernel_rfl) (fun _ _ _ h => h) (.val rfl (fun wz hwz => ?_)) ?_
      rotate_left
      · go_simp; try (with_reducible rfl)
      (simp only [Act.put]); (try simp only [List.setIfInBounds_toArray]); (try simp only [List.set_cons_succ]); (try simp only [List.set_cons_zero])
      refine WpG.takeD 5 (some 30) (v := ?_) rfl rfl (by kernel_rfl) (fun _ _ _ h => h) (.val rfl (fun wz hwz => ?_)) ?_
      rotate_left
      · go_simp; try (with_reducible rfl)
      (simp only [Act.put]); (try simp only [List.setIfInBounds_toArray]); (try simp only [List.set_cons_succ]); (try simp only [List.set_cons_zero])
      refine WpG.takeD 6 (some 31) (v := ?_) rfl rfl (by kernel_rfl) (fun _ _ _ h => h) (.val rfl (fun wz hwz => ?_)) ?_
      rotate_left
      · (obtain ⟨hcz, hfz⟩ := bcell (hwz); go_simp; try (with_reducible rfl))
      (simp only [Act.put]); (try simp only [List.setIfInBounds_toArray]); (try simp only [List.set_cons_succ]); (try simp only [List.set_cons_zero])
      refine WpG.takeD 7 (some 32) (v := ?_) rfl rfl (by kernel_rfl) (fun _ _ _ h => h) (.val rfl (fun wz hwz => ?_)) ?_
      rotate_left
      · go_simp; try (with_reducible rfl)
      (simp only [Act.put]); (try simp only [List.setIfInBounds_toArray]); (try simp only [List.set_cons_succ]); (try simp only [List.set_cons_zero])
      refine WpG.takeD 8 (some 33) (v := ?_) rfl rfl (by kernel_rfl) (fun _ _ _ h => h) (.val rfl (fun wz hwz => ?_)) ?_
      rotate_left
      · go_simp; try (with_reducible rfl)
      (simp only [Act.put]); (try simp only [List.setIfInBounds_toArray]); (try simp only [List.set_cons_succ]); (try simp only [List.set_cons_zero])
      refine WpG.takeD 9 (some 34) (v := ?_) rfl rfl (by kernel_rfl) (fun _ _ _ h => h) (.val rfl (fun wz hwz => ?_)) ?_
      rotate_left
      · go_simp; try (with_reducible rfl)
      (simp only [Act.put]); (try simp only [List.setIfInBounds_toArray]); (try simp only [List.set_cons_succ]); (try simp only [List.set_cons_zero])
      refine WpG.takeD 10 (some 35) (v := ?_) rfl rfl (by kernel_rfl) (fun _ _ _ h => h) (.val rfl (fun wz hwz => ?_)) ?_
      rotate_left
      · go_simp; try (with_reducible rfl)
      (simp only [Act.put]); (try simp only [List.setIfInBounds_toArray]); (try simp only [List.set_cons_succ]); (try simp only [List.set_cons_zero])
      refine WpG.takeD 11 (some 36) (v := ?_) rfl rfl (by kernel_rfl) (fun _ _ _ h => h) (.val rfl (fun wz hwz => ?_)) ?_
      rotate_left
      · (obtain ⟨hcz, hfz⟩ := bcell (hwz); go_simp; try (with_reducible rfl))
      (simp only [Act.put]); (try simp only [List.setIfInBounds_toArray]); (try simp only [List.set_cons_succ]); (try simp only [List.set_cons_zero])
      refine WpG.takeD 12 (some 37) (v := ?_) rfl rfl (by kernel_rfl) (fun _ _ _ h => h) (.val rfl (fun wz hwz => ?_)) ?_
      rotate_left
      · go_simp; try (with_reducible rfl)
      (simp only [Act.put]); (try simp only [List.setIfInBounds_toArray]); (try simp only [List.set_cons_succ]); (try simp only [List.set_cons_zero])
      refine WpG.takeD 13 (some 38) (v := ?_) rfl rfl (by kernel_rfl) (fun _ _ _ h => h) (.val rfl (fun wz hwz => ?_)) ?_
      rotate_left
      · go_simp; try (with_reducible rfl)
      (simp only [Act.put]); (try simp only [List.setIfInBounds_toArray]); (try simp only [List.set_cons_succ]); (try simp only [List.set_cons_zero])
      refine WpG.takeD 14 (some 39) rfl rfl (by kernel_rfl) (fun _ _ _ h => h) (.call rfl (fun wz hwz => HNUM.out wz (hbw.trans ((hwz).mono hbw.size))) (fun wz hwz => ?_)) ?_
      · go_simp; try (with_reducible rfl)
      (simp only [Act.put]); (try simp only [List.setIfInBounds_toArray]); (try simp only [List.set_cons_succ]); (try simp only [List.set_cons_zero])
      refine WpG.oneD 15 (some 40) rfl rfl (by kernel_rfl) (fun g : Nat => Value.slice (some ⟨g, 0, none⟩) 1 1) (fun g wz => w5.heap.size ≤ g ∧ BlkE wz g [eK s]) (fun _ _ _ h hb => ⟨h.1, h.2.call hb⟩) (Fresh.slice 1 1 [.int .u64 (lo s), .int .u64 (hi s)] 41 rfl (fun wz hwz => (hwz).size) (fun wz hwz => by go_simp; try (with_reducible rfl)) (R := fun g wz => BlkE wz g [eK s]) (fun wz hwz => BlkE.new wz _ _ rfl)) (fun sb w0 hw0 hR0 => ?_)
      (simp only [Act.put]); (try simp only [List.setIfInBounds_toArray]); (try simp only [List.set_cons_succ]); (try simp only [List.set_cons_zero])
      refine WpG.done (by kernel_rfl) (fun w6 hS => ?_)
      (try simp only [List.drop_succ_cons]); (try simp only [List.drop_zero]); (try simp only [Nat.reduceSub]); (try simp only [List.take_succ_cons]); (try simp only [List.take_zero])
      obtain ⟨hb6, hsb, hBs⟩ := hS
      clear x0 x1 x2 x3 x4 x5 x6 x7 x8 x9 x10 x11 x12
      have hz5 : w.heap.size < w5.heap.size := hx.lt
      have hz6 := hb6.size
      replace hbw := bl_call hbw (Nat.le_refl _) hb6
      replace hx := hx.call hb6
      replace hown := own_call hown hb6
      obtain ⟨⟨x0, x1, x2, x3, x4, x5⟩, ⟨x6, x7, x8, x9, x10, x11⟩, x12⟩ := hx.get6
      obtain ⟨zs, hzs⟩ : ∃ zs, (numsE (f := f) b n (esK l)).take j = zs := ⟨_, rfl⟩
      rw [hzs] at hown
      have HOW := Lib.hid hown
      have HT : Hid (cellsE ((numsE (f := f) b n (esK l)).take (j + 1)) = cellsE (zs ++ [eK s])) := by
        show cellsE ((numsE (f := f) b n (esK l)).take (j + 1)) = _
        rw [List.take_add_one, HAT.out, hzs]
        rfl
      have HR1 : Hid (0 < 1 → ∃ b o, (some ⟨sb, 0, none⟩ : Option Addr) = some ⟨b, o, none⟩ ∧ RowE w6 b o [eK s]) := fun _ => ⟨_, _, rfl, hBs.rowE⟩
      have hk1 : j + 1 ≤ 1099511627776 := by omega
      have hbase : w.heap.size + 1 ≤ w6.heap.size := by omega
      clear hown hzs hb6 hBs hR0 hw0 hpi hpi2 hw1 hw2 hw3 hd1
      go_wp2_with (at_builtin; (refine wpList_append_E rfl (.tmp 25) (.tmp 40) rfl (w.heap.size + 1) _ j zs rfl HOW.out (some ⟨sb, 0, none⟩) 1 1 [eK s] rfl rfl HR1.out hk1 hbase ?_; intro v2 w7 hown7 hg7 hat7; have hb7 : Below (w.heap.size + 1) w6 w7 := (Below.refl _ _).grown hg7 hbase (fun q hq => (HOW.out.lt q hq).1); obtain ⟨g2, cap2, hv2⟩ := own_slice hown7; rw [hv2]))
      rw [hv2, ← HT.out] at hown7
      have hx7 := hx.belowB hb7 (by omega)
      have hbw7 : Below w.heap.size w w7 := hbw.trans (hb7.mono (by omega))
      have hz7 := hb7.size
      go_roundw
      case rel => exact ⟨j + 1, _, cap2, by omega, by go_num, rfl, hx7, hown7, hbw7, by omega⟩
      case measure => simp [intOf]; omega
    · obtain rfl : j = n := by omega
      have HZL := Lib.hid (numsE_length (f := f) b j (esK l))
      rw [List.take_of_length_le (by rw [HZL.out]; exact Nat.le_refl _)] at hown
      go_wp2_with (first
        | (go_at_call 62; refine (HO.out _).mono ?_; rintro e w5 ⟨rfl, hb5⟩; replace hbw := bl_call hbw (Nat.le_refl _) hb5; replace hx := hx.call hb5; replace hown := own_call hown hb5))
      go_ret
      exact ⟨_, rfl, SlE.of_own (xs := numsE (f := f) b j (esK l)) (by rw [HZL.out]; exact hown) (numsE_ok b j _), hbw⟩

/-- what of a vector of the field is summed, as the reference has it -/
theorem ref9_Truncate (y : CK) (hy : y.ok) (vl : Value) (l : KL f) (w : World) (hl : SlK w w.heap.size vl l) (hlen : l.length = y.nin) :
    Calls Try.prog 47 #[y.rval f, vl] w (RetS1 (truncE f y (esK l)) w) := by
  have HO := Lib.hid (fun wz => ref9_Out f y hy wz)
  cases y with
  | sum b => exact ref9_Truncate_nums2 hf b 1 0 0 hy.1 hy.2 (by omega) 0 vl l w hl (by rw [hlen]; exact (Nat.one_mul b).symm) HO
  | vec b n c => exact ref9_Truncate_nums3 hf b n 0 c hy.1.1 hy.1.2 hy.2.1.2 n vl l w hl hlen HO
  | count => exact ref9_Truncate_first .count hy (by decide) vl l w hl hlen
  | hist n c => exact ref9_Truncate_first (.hist n c) hy (fun h => by rcases h with h | h <;> cases h) vl l w hl hlen
  | multi n m c => exact ref9_Truncate_first (.multi n m c) hy (fun h => by rcases h with h | h <;> cases h) vl l w hl hlen
end

end Go.Proofs.Ytiphahbeedeebaa
