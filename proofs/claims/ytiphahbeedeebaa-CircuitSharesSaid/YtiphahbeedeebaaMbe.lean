/-
  WALK: tallymanlaw10.CircuitShares.
-/
import Derived.Test.YtiphahbeedeebaaMbd
import Derived.Test.YtiphahbeedeebaaMay
import Derived.Test.YtiphahbeedeebaaOpen10M
import Derived.Test.YtiphahbeedeebaaMba
import Derived.Test.YtiphahbeedeebaaMah
namespace Go.Proofs.Ytiphahbeedeebaa
open Go.RowKit Fm
set_option linter.unusedVariables false
set_option maxRecDepth 100000

theorem blk_ne {w : World} {g b : Nat} {xs : List E} {A : Option Addr} {n c : Nat} (h : BlkE w g xs) (k : Vs w b [.slice A n c]) : g ≠ b := by
  rintro rfl
  have h1 := h.cell 0
  have h2 := k.cell 0 _ rfl
  rw [h1] at h2
  cases xs with
  | nil => simp [cellsE] at h2
  | cons x l => simp [cellsE] at h2

theorem below_two {w a b : World} {fb ab pb : Nat} {rb : Option Nat} (h : Below w.heap.size w a) (hE : Exc (FxTwo fb ab pb rb) a.heap.size a b) (hr : ∀ q, rb = some q → b.heap[q]? = w.heap[q]?) (h1 : w.heap.size ≤ fb) (h2 : w.heap.size ≤ ab) (h3 : w.heap.size ≤ pb) : Below w.heap.size w b := by
  refine ⟨hE.os.trans h.os, hE.tape.trans h.tape, hE.output.trans h.output, Nat.le_trans h.size hE.size, fun q hq => ?_⟩
  by_cases hrq : rb = some q
  · exact hr q hrq
  · refine (hE.block q (Nat.lt_of_lt_of_le hq h.size) fun hx => ?_).trans (h.block q hq)
    rcases hx with rfl | rfl | rfl | hx
    · omega
    · omega
    · omega
    · exact hrq hx

theorem zip_esS {f : Nat} (m : Int) (hm : m = (Pm f : Int)) : ∀ (a b : KL f), zipO (· - ·) f m (esK a) (esK b) = esK (List.zipWith (· - ·) a b)
  | [], _ => rfl
  | _ :: _, [] => rfl
  | x :: a, y :: b => by
    have ih := zip_esS m hm a b
    unfold zipO at ih ⊢
    rw [esK_cons, esK_cons, List.zipWith_cons_cons, List.zipWith_cons_cons, esK_cons, ih]
    congr 1
    have h1 : nI (f : Int) (eK x).1 (eK x).2 = nI (f : Int) (lo x) (hi x) := rfl
    have h2 : nI (f : Int) (eK y).1 (eK y).2 = nI (f : Int) (lo y) (hi y) := rfl
    rw [h1, h2, hm, ← eK_kI, kI_sub, kI_nI, kI_nI, kL_lohi, kL_lohi]

theorem sum_sub {f : Nat} (v a : KL f) (h : a.length = v.length) : SumL a (List.zipWith (· - ·) v a) v := by
  refine ⟨h, by rw [List.length_zipWith]; omega, fun i x y z h1 h2 h3 => ?_⟩
  rw [List.getElem?_zipWith, h3, h1] at h2
  injection h2 with h2
  rw [← h2]
  grind

set_option maxHeartbeats 16000000 in
theorem walk_CircuitShares (k f b l m c : Int) (vl vm vj va : Value) (xs ms rs ys : List E) (w : World) (hk : 0 ≤ k ∧ k ≤ 255) (hf : 0 ≤ f ∧ f ≤ 255) (hb : 0 ≤ b ∧ b ≤ 255) (hl : 0 ≤ l ∧ l ≤ 255) (hm : 0 ≤ m ∧ m ≤ 255) (hc : 0 ≤ c ∧ c ≤ 255)
    (hxs : SlE w w.heap.size vl xs) (hms : SlE w w.heap.size vm ms) (hrs : SlE w w.heap.size vj rs) (hys : SlE w w.heap.size va ys) :
    Calls Try.prog 17 #[.agg #[.int .u8 k, .int .u8 f, .int .u8 b, .int .u8 l, .int .u8 m, .int .u8 c], vl, vm, vj, va] w fun e w' => e = .returned (.bool true) ∧ Below w.heap.size w w' := by
  have hmf : ∀ (fn : Fn) (first cap : Array Value) (w : World), (Instr.makeFunc fn first cap).run Try.prog w = .ok (.func fn first cap) w := fun _ _ _ _ => rfl
  obtain ⟨F, y, hF, hy, hCIR⟩ := law10_Circuit k f b l m c hk.1 hk.2 hf.1 hf.2 hb.1 hb.2 hl.1 hl.2 hm.1 hm.2 hc.1 hc.2
  have hcl : y.calls ≤ 511 := by have := hy.calls; omega
  have HCIR := Lib.hid hCIR
  have HAW := Lib.hid law10_Awake
  have HVEC : Hid (∀ (vx : Value) (es : List E) wz, SlE w w.heap.size vx es → Below w.heap.size w wz → es.length ≤ 60 → Calls Try.prog 44 #[y.val F, vx, .bool false] wz fun e w' => ∃ q : Nat × KL F, e = .returned (.slice (some ⟨q.1, 0, none⟩) y.nin y.nin) ∧ (q.2.length = y.nin ∧ wz.heap.size ≤ q.1 ∧ BlkE w' q.1 (esK q.2)) ∧ Below wz.heap.size wz w') :=
    fun vx es wz hs hb h60 => (law10_Vector hF y hy.ok vx es false wz ((hs.below hb).mono hb.size) h60).mono fun e w' ⟨g, zs, h1, h2, h3, h4, h5⟩ => ⟨(g, zs), h2, ⟨h1, h4, h3⟩, h5⟩
  have HJOI : Hid (∀ wz, Below w.heap.size w wz → rs.length ≤ 60 → Calls Try.prog 74 #[y.val F, vj, .int .i64 1] wz fun e w' => ∃ q : Nat × KL F, e = .returned (.slice (some ⟨q.1, 0, none⟩) y.joint y.joint) ∧ (q.2.length = y.joint ∧ wz.heap.size ≤ q.1 ∧ BlkE w' q.1 (esK q.2)) ∧ Below wz.heap.size wz w') :=
    fun wz hb h60 => (law10_Joint hF y hy.ok hcl vj rs wz ((hrs.below hb).mono hb.size) h60).mono fun e w' ⟨g, zs, h1, h2, h3, h4, h5⟩ => ⟨(g, zs), h2, ⟨h1, h4, h3⟩, h5⟩
  have hnin : y.nin ≤ 2048 := CK.nin_le hy.ok
  have hjn : y.joint ≤ 512 := by cases y <;> simp only [CK.joint] <;> (try simp only [CK.calls] at hcl ⊢) <;> omega
  have HSV : Hid (∀ wz (ga gb : Nat) (la lb : KL F), BlkE wz ga (esK la) → BlkE wz gb (esK lb) → la.length = y.nin → lb.length = y.nin → Calls Try.prog 51 #[.int .u8 (F : Int), .slice (some ⟨ga, 0, none⟩) y.nin y.nin, .slice (some ⟨gb, 0, none⟩) y.nin y.nin] wz fun e w' =>
      ∃ g, e = .returned (.tuple #[.slice (some ⟨g, 0, none⟩) y.nin y.nin, .int .i64 0]) ∧ BlkE w' g (esK (List.zipWith (· - ·) la lb)) ∧ wz.heap.size ≤ g ∧ Below wz.heap.size wz w') := fun wz ga gb la lb h1 h2 h3 h4 => by
    have s1 : SlE wz wz.heap.size (.slice (some ⟨ga, 0, none⟩) y.nin y.nin) (esK la) := by
      have h := h1.sl (by rw [esK_length]; omega) (esK_ok la) h1.lt
      rwa [esK_length, h3] at h
    have s2 : SlE wz wz.heap.size (.slice (some ⟨gb, 0, none⟩) y.nin y.nin) (esK lb) := by
      have h := h2.sl (by rw [esK_length]; omega) (esK_ok lb) h2.lt
      rwa [esK_length, h4] at h
    refine (field_SubVec F _ (FM.ofN hF) _ _ (esK la) (esK lb) wz s1 s2 (by rw [esK_length, esK_length, h3, h4]) (by rw [esK_length]; omega)).mono ?_
    rintro e w' ⟨g, he, hB, h5, h6⟩
    rw [zip_esS _ rfl] at he hB
    rw [esK_length, List.length_zipWith, h3, h4, Nat.min_self] at he
    exact ⟨g, he, hB, h5, h6⟩
  have HADD := Lib.hid (fun (x y : Fin (Pm F)) wz => field_AddK hF x y wz)
  have EQL : ∀ (a0 a1 b0 b1 : Int) (wz : World), (Op.equalIn 10000 41 (.agg #[.int .u64 a0, .int .u64 a1]) (.agg #[.int .u64 b0, .int .u64 b1])).run Try.prog wz = .ok (a0 == b0 && a1 == b1) wz := fun a0 a1 b0 b1 wz => run_equalIn_elem 9998 a0 a1 b0 b1 wz
  have HONE := Lib.hid (fun (v j : KL F) (h1 : v.length = y.nin) (h2 : j.length = y.joint) => sh_one hF y hy.ok hcl v j h1 h2)
  have HTWO := Lib.hid (fun (v j : KL F) (h1 : v.length = y.nin) (h2 : j.length = y.joint) => sh_two hF y hy.ok hcl v j h1 h2)
  have HTHR := Lib.hid (fun (v j : KL F) (h1 : v.length = y.nin) (h2 : j.length = y.joint) => sh_three hF y hy.ok hcl v j h1 h2)
  have HSUM : Hid (∀ (la lb lc : KL F), la.length = y.nin → lb.length = y.nin → runF y lb lc (kinv (nK F 2)) (ansTwo F ys) + runF y (List.zipWith (· - ·) la lb) lc (kinv (nK F 2)) (fun k => (ansL (fun k => gval (y.gad F) (argOf y la lc 1 k)) y.calls).getD k 0 - (ansL (ansTwo F ys) y.calls).getD k 0) = runF y la lc 1 (fun k => gval (y.gad F) (argOf y la lc 1 k))) :=
    fun la lb lc h1 h2 => runF_sum y hy.ok la lb _ lc h1 (sum_sub la lb (by omega)) _ (kinv_two hF).2 _ _ _ fun k hk => by
      rw [getD_of (ansL_at _ _ k hk), getD_of (ansL_at _ _ k hk)]
      grind
  obtain ⟨⟨A1, c1, rfl, _, _, _⟩, _⟩ := id hxs
  obtain ⟨⟨A2, c2, rfl, _, _, _⟩, _⟩ := id hms
  obtain ⟨⟨A3, c3, rfl, _, _, _⟩, _⟩ := id hrs
  obtain ⟨⟨A4, c4, rfl, _, _, hA4⟩, hok4⟩ := id hys
  obtain ⟨rb, hrb, hA⟩ : ∃ rb : Option Nat, (∀ q, rb = some q → q < w.heap.size) ∧ (0 < ys.length → ∃ b o, A4 = some ⟨b, o, none⟩ ∧ rb = some b ∧ RowE w b o ys) := by
    by_cases h0 : 0 < ys.length
    · obtain ⟨b, o, h1, h2, h3⟩ := hA4 h0
      exact ⟨some b, fun q hq => by injection hq with hq; omega, fun _ => ⟨b, o, h1, rfl, h3⟩⟩
    · exact ⟨none, (fun q hq => absurd hq (by simp)), fun h => absurd h h0⟩
  have HRB := Lib.hid hrb
  have HA := Lib.hid hA
  have HOK4 := Lib.hid hok4
  have HXS := Lib.hid hxs
  have HMS := Lib.hid hms
  clear hxs hms hrs hys hA4 hok4 hrb hA hCIR
  unfold cirL at HONE HTWO HTHR
  unfold CK.val at HCIR HVEC HJOI
  generalize ((y.k : Nat) : Int) = yk at *
  generalize ((y.b : Nat) : Int) = yb at *
  generalize ((y.l : Nat) : Int) = yl at *
  generalize ((y.m : Nat) : Int) = ym at *
  generalize ((y.c : Nat) : Int) = yc at *
  have hb00 : Below w.heap.size w w := Below.refl _ _
  go_enter Try.func17, Try.ntmps17
  go_upto_region 1 with fail
  have hs := (Vs.new w [.int .u8 k, .int .u8 f, .int .u8 b, .int .u8 l, .int .u8 m, .int .u8 c] #[.int .u8 k, .int .u8 f, .int .u8 b, .int .u8 l, .int .u8 m, .int .u8 c] 62 rfl).alloc (.cells #[.slice A4 ys.length c4] 22)
  have hab := Vs.new (w.alloc (.cells #[.int .u8 k, .int .u8 f, .int .u8 b, .int .u8 l, .int .u8 m, .int .u8 c] 62)) [.slice A4 ys.length c4] #[.slice A4 ys.length c4] 22 rfl
  simp only [World.size_alloc] at hab
  have hbw : Below w.heap.size w ((w.alloc (.cells #[.int .u8 k, .int .u8 f, .int .u8 b, .int .u8 l, .int .u8 m, .int .u8 c] 62)).alloc (.cells #[.slice A4 ys.length c4] 22)) := by repeat (first | exact Below.refl _ _ | with_reducible assumption | (refine bl_alloc ?_ (Nat.le_refl _) _))
  have hszn : w.heap.size + 2 ≤ ((w.alloc (.cells #[.int .u8 k, .int .u8 f, .int .u8 b, .int .u8 l, .int .u8 m, .int .u8 c] 62)).alloc (.cells #[.slice A4 ys.length c4] 22)).heap.size := by simp only [World.size_alloc]; omega
  generalize ((w.alloc (.cells #[.int .u8 k, .int .u8 f, .int .u8 b, .int .u8 l, .int .u8 m, .int .u8 c] 62)).alloc (.cells #[.slice A4 ys.length c4] 22)) = w1 at hs hab hbw hszn ⊢
  clear hb00
  by_cases h60 : 60 < xs.length
  · skip
    obtain ⟨ab0, ab1, ab2⟩ := hab.get1
    go_wp2_with (first
      | (go_at_call 35; refine (HAW.out _).mono ?_; rintro e w2 ⟨rfl, hb2⟩; replace hbw := bl_call hbw (Nat.le_refl _) hb2; replace hs := hs.call hb2; replace hab := hab.call hb2; clear ab0 ab1 ab2; clear hb2; obtain ⟨ab0, ab1, ab2⟩ := hab.get1))
    go_ret
    exact ⟨rfl, hbw⟩
  by_cases h61 : 60 < ms.length
  · skip
    obtain ⟨ab0, ab1, ab2⟩ := hab.get1
    go_wp2_with (first
      | (go_at_call 35; refine (HAW.out _).mono ?_; rintro e w2 ⟨rfl, hb2⟩; replace hbw := bl_call hbw (Nat.le_refl _) hb2; replace hs := hs.call hb2; replace hab := hab.call hb2; clear ab0 ab1 ab2; clear hb2; obtain ⟨ab0, ab1, ab2⟩ := hab.get1))
    go_ret
    exact ⟨rfl, hbw⟩
  by_cases h62 : 60 < rs.length
  · skip
    obtain ⟨ab0, ab1, ab2⟩ := hab.get1
    go_wp2_with (first
      | (go_at_call 35; refine (HAW.out _).mono ?_; rintro e w2 ⟨rfl, hb2⟩; replace hbw := bl_call hbw (Nat.le_refl _) hb2; replace hs := hs.call hb2; replace hab := hab.call hb2; clear ab0 ab1 ab2; clear hb2; obtain ⟨ab0, ab1, ab2⟩ := hab.get1))
    go_ret
    exact ⟨rfl, hbw⟩
  by_cases h63 : 60 < ys.length
  · skip
    obtain ⟨ab0, ab1, ab2⟩ := hab.get1
    go_wp2_with (first
      | (go_at_call 35; refine (HAW.out _).mono ?_; rintro e w2 ⟨rfl, hb2⟩; replace hbw := bl_call hbw (Nat.le_refl _) hb2; replace hs := hs.call hb2; replace hab := hab.call hb2; clear ab0 ab1 ab2; clear hb2; obtain ⟨ab0, ab1, ab2⟩ := hab.get1))
    go_ret
    exact ⟨rfl, hbw⟩
  obtain ⟨⟨s0, s1, s2, s3, s4, s5⟩, ⟨s6, s7, s8, s9, s10, s11⟩, s12⟩ := hs.get6
  obtain ⟨ab0, ab1, ab2⟩ := hab.get1
  go_upto_region 5 with (first
    | (go_at_call 35; refine (HAW.out _).mono ?_; rintro e w2 ⟨rfl, hb2⟩; replace hbw := bl_call hbw (Nat.le_refl _) hb2; replace hs := hs.call hb2; replace hab := hab.call hb2; clear s0 s1 s2 s3 s4 s5 s6 s7 s8 s9 s10 s11 s12 ab0 ab1 ab2; clear hb2; obtain ⟨⟨s0, s1, s2, s3, s4, s5⟩, ⟨s6, s7, s8, s9, s10, s11⟩, s12⟩ := hs.get6; obtain ⟨ab0, ab1, ab2⟩ := hab.get1))
  go_upto_region 6 with (first
    | (go_at_call 36; refine (HCIR.out _).mono ?_; rintro e w3 ⟨rfl, hb3⟩; replace hbw := bl_call hbw (Nat.le_refl _) hb3; replace hs := hs.call hb3; replace hab := hab.call hb3; clear s0 s1 s2 s3 s4 s5 s6 s7 s8 s9 s10 s11 s12 ab0 ab1 ab2; clear hb3; obtain ⟨⟨s0, s1, s2, s3, s4, s5⟩, ⟨s6, s7, s8, s9, s10, s11⟩, s12⟩ := hs.get6; obtain ⟨ab0, ab1, ab2⟩ := hab.get1))
  clear s0 s1 s2 s3 s4 s5 s6 s7 s8 s9 s10 s11 s12 ab0 ab1 ab2
  have hs3 := hab.lt
  have hs0 := hbw.size
  have hY := Vs.new w3 [.int .u8 yk, .int .u8 (F : Int), .int .i64 yb, .int .i64 yl, .int .i64 ym, .int .i64 yc] #[.int .u8 yk, .int .u8 (F : Int), .int .i64 yb, .int .i64 yl, .int .i64 ym, .int .i64 yc] 60 rfl
  have hbA : Below w3.heap.size w3 (w3.alloc (.cells #[.int .u8 yk, .int .u8 (F : Int), .int .i64 yb, .int .i64 yl, .int .i64 ym, .int .i64 yc] 60)) := by repeat (first | exact Below.refl _ _ | with_reducible assumption | (refine bl_alloc ?_ (Nat.le_refl _) _))
  replace hbw := bl_call hbw (Nat.le_refl _) hbA
  replace hs := hs.call hbA
  replace hab := hab.call hbA
  clear hbA
  generalize w3.alloc (.cells #[.int .u8 yk, .int .u8 (F : Int), .int .i64 yb, .int .i64 yl, .int .i64 ym, .int .i64 yc] 60) = w4 at hbw hs hab hY ⊢
  obtain ⟨⟨Y0, Y1, Y2, Y3, Y4, Y5⟩, ⟨Y6, Y7, Y8, Y9, Y10, Y11⟩, Y12⟩ := hY.get6
  go_upto_region 7 with fail
  clear Y0 Y1 Y2 Y3 Y4 Y5 Y6 Y7 Y8 Y9 Y10 Y11 Y12
  have hs4 := hY.lt
  have hF5 := Vs.new w4 [.int .u8 (F : Int)] #[.int .u8 (F : Int)] 24 rfl
  have hbA : Below w4.heap.size w4 (w4.alloc (.cells #[.int .u8 (F : Int)] 24)) := by repeat (first | exact Below.refl _ _ | with_reducible assumption | (refine bl_alloc ?_ (Nat.le_refl _) _))
  replace hbw := bl_call hbw (Nat.le_refl _) hbA
  replace hs := hs.call hbA
  replace hab := hab.call hbA
  replace hY := hY.call hbA
  clear hbA
  generalize w4.alloc (.cells #[.int .u8 (F : Int)] 24) = w5 at hbw hs hab hY hF5 ⊢
  have hs5 := hF5.lt
  obtain ⟨ab, habe⟩ : ∃ z, w.heap.size + 1 = z := ⟨_, rfl⟩
  obtain ⟨xb, hxbe⟩ : ∃ z, w3.heap.size = z := ⟨_, rfl⟩
  obtain ⟨fb, hfbe⟩ : ∃ z, w4.heap.size = z := ⟨_, rfl⟩
  rw [habe] at hab hs3
  rw [hxbe] at hY hs3 hs4 hs0
  rw [hfbe] at hF5 hs4 hs5
  simp only [habe, hxbe, hfbe]
  clear hxbe hfbe
  have HCN : Hid (1 ≤ y.calls) := CK.calls_pos hy.ok
  have h60' : xs.length ≤ 60 := by omega
  have h61' : ms.length ≤ 60 := by omega
  have h62' : rs.length ≤ 60 := by omega
  have h63' : ys.length ≤ 60 := by omega
  have hsab : w.heap.size ≤ ab := by omega
  clear habe hy hcl
  generalize y.nin = ni at *
  generalize y.joint = nj at *
  obtain ⟨⟨Y0, Y1, Y2, Y3, Y4, Y5⟩, ⟨Y6, Y7, Y8, Y9, Y10, Y11⟩, Y12⟩ := hY.get6
  apply region_G4 (n := 12) (m := 13) (f := 12) ((fun ga gb gc bb wz => Below w5.heap.size w5 wz ∧ (∃ la : KL F, la.length = ni ∧ w5.heap.size ≤ ga ∧ BlkE wz ga (esK la)) ∧ (∃ lb : KL F, lb.length = ni ∧ w5.heap.size ≤ gb ∧ BlkE wz gb (esK lb)) ∧ (∃ lc : KL F, lc.length = nj ∧ w5.heap.size ≤ gc ∧ BlkE wz gc (esK lc)) ∧ w5.heap.size ≤ bb ∧ Vs wz bb [.slice none 0 0]))
  case hm => kernel_rfl
  case hB => kernel_rfl
  case hf => rfl
  case' h =>
    refine WpG.takeD 0 (some 51) (v := ?_) rfl rfl (by kernel_rfl) (fun _ _ _ h => h) (.val rfl (fun wz hwz => ?_)) ?_
    rotate_left
    · (obtain ⟨hcz, hfz⟩ := bcell (hwz); go_simp; try (with_reducible rfl))
    (simp only [Act.put]); (try simp only [List.setIfInBounds_toArray]); (try simp only [List.set_cons_succ]); (try simp only [List.set_cons_zero])
    refine WpG.takeD 1 (some 52) (v := ?_) rfl rfl (by kernel_rfl) (fun _ _ _ h => h) (.val rfl (fun wz hwz => ?_)) ?_
    rotate_left
    · go_simp; try (with_reducible rfl)
    (simp only [Act.put]); (try simp only [List.setIfInBounds_toArray]); (try simp only [List.set_cons_succ]); (try simp only [List.set_cons_zero])
    refine WpG.takeD 3 (some 54) (v := ?_) rfl rfl (by kernel_rfl) (fun _ _ _ h => h) (.val rfl (fun wz hwz => ?_)) ?_
    rotate_left
    · (obtain ⟨hcz, hfz⟩ := bcell (hwz); go_simp; try (with_reducible rfl))
    (simp only [Act.put]); (try simp only [List.setIfInBounds_toArray]); (try simp only [List.set_cons_succ]); (try simp only [List.set_cons_zero])
    refine WpG.takeD 4 (some 55) (v := ?_) rfl rfl (by kernel_rfl) (fun _ _ _ h => h) (.val rfl (fun wz hwz => ?_)) ?_
    rotate_left
    · go_simp; try (with_reducible rfl)
    (simp only [Act.put]); (try simp only [List.setIfInBounds_toArray]); (try simp only [List.set_cons_succ]); (try simp only [List.set_cons_zero])
    refine WpG.takeD 6 (some 57) (v := ?_) rfl rfl (by kernel_rfl) (fun _ _ _ h => h) (.val rfl (fun wz hwz => ?_)) ?_
    rotate_left
    · (obtain ⟨hcz, hfz⟩ := bcell (hwz); go_simp; try (with_reducible rfl))
    (simp only [Act.put]); (try simp only [List.setIfInBounds_toArray]); (try simp only [List.set_cons_succ]); (try simp only [List.set_cons_zero])
    refine WpG.takeD 7 (some 58) (v := ?_) rfl rfl (by kernel_rfl) (fun _ _ _ h => h) (.val rfl (fun wz hwz => ?_)) ?_
    rotate_left
    · go_simp; try (with_reducible rfl)
    (simp only [Act.put]); (try simp only [List.setIfInBounds_toArray]); (try simp only [List.set_cons_succ]); (try simp only [List.set_cons_zero])
    refine WpG.twoD 2 9 (some 53) (some 15) rfl rfl rfl rfl (by kernel_rfl) (fun q : Nat × KL F => Value.slice (some ⟨q.1, 0, none⟩) ni ni) (fun q wz => q.2.length = ni ∧ w5.heap.size ≤ q.1 ∧ BlkE wz q.1 (esK q.2)) (fun _ _ _ h hb => ⟨h.1, h.2.1, h.2.2.call hb⟩) (Fresh.call rfl (fun wz hwz => (HVEC.out _ xs wz HXS.out (bl_call hbw (Nat.le_refl _) (hwz)) h60').mono fun e w' ⟨q, h1, ⟨h2, h3, h4⟩, h5⟩ => ⟨q, h1, ⟨h2, Nat.le_trans (hwz).size h3, h4⟩, h5⟩) (fun wz hwz => by go_simp; try (with_reducible rfl))) (fun b : Nat => Value.pointer (some ⟨b, 0, none⟩)) (fun b wz => w5.heap.size ≤ b ∧ Vs wz b [.slice none 0 0]) (fun _ _ _ h hb => ⟨h.1, h.2.call hb⟩) (Fresh.var [.slice none 0 0] 22 rfl (fun wz hwz => (hwz).size) (fun wz hwz => by go_simp; try (with_reducible rfl)) (R := fun b wz => Vs wz b [.slice none 0 0]) (fun wz hwz => Vs.new wz _ _ _ rfl)) (fun qa w0a hw0a hR0a => ?rg7_1a) (fun bb w0b' hw0b' hR0b' => ?rg7_1b)
    case' rg7_1a =>
      (simp only [Act.put]); (try simp only [List.setIfInBounds_toArray]); (try simp only [List.set_cons_succ]); (try simp only [List.set_cons_zero])
      obtain ⟨ga, la⟩ := qa; dsimp only
      refine WpG.twoD 5 9 (some 56) (some 15) rfl rfl rfl rfl (by kernel_rfl) (fun q : Nat × KL F => Value.slice (some ⟨q.1, 0, none⟩) ni ni) (fun q wz => q.2.length = ni ∧ w5.heap.size ≤ q.1 ∧ BlkE wz q.1 (esK q.2)) (fun _ _ _ h hb => ⟨h.1, h.2.1, h.2.2.call hb⟩) (Fresh.call rfl (fun wz hwz => (HVEC.out _ ms wz HMS.out (bl_call hbw (Nat.le_refl _) (hwz.1)) h61').mono fun e w' ⟨q, h1, ⟨h2, h3, h4⟩, h5⟩ => ⟨q, h1, ⟨h2, Nat.le_trans (hwz.1).size h3, h4⟩, h5⟩) (fun wz hwz => by go_simp; try (with_reducible rfl))) (fun b : Nat => Value.pointer (some ⟨b, 0, none⟩)) (fun b wz => w5.heap.size ≤ b ∧ Vs wz b [.slice none 0 0]) (fun _ _ _ h hb => ⟨h.1, h.2.call hb⟩) (Fresh.var [.slice none 0 0] 22 rfl (fun wz hwz => (hwz.1).size) (fun wz hwz => by go_simp; try (with_reducible rfl)) (R := fun b wz => Vs wz b [.slice none 0 0]) (fun wz hwz => Vs.new wz _ _ _ rfl)) (fun qb w0b hw0b hR0b => ?rg7_2a) (fun bb w0b' hw0b' hR0b' => ?rg7_2b)
      case' rg7_2a =>
        (simp only [Act.put]); (try simp only [List.setIfInBounds_toArray]); (try simp only [List.set_cons_succ]); (try simp only [List.set_cons_zero])
        obtain ⟨gb, lb⟩ := qb; dsimp only
        refine WpG.twoD 8 9 (some 59) (some 15) rfl rfl rfl rfl (by kernel_rfl) (fun q : Nat × KL F => Value.slice (some ⟨q.1, 0, none⟩) nj nj) (fun q wz => q.2.length = nj ∧ w5.heap.size ≤ q.1 ∧ BlkE wz q.1 (esK q.2)) (fun _ _ _ h hb => ⟨h.1, h.2.1, h.2.2.call hb⟩) (Fresh.call rfl (fun wz hwz => (HJOI.out wz (bl_call hbw (Nat.le_refl _) (hwz.1.1)) h62').mono fun e w' ⟨q, h1, ⟨h2, h3, h4⟩, h5⟩ => ⟨q, h1, ⟨h2, Nat.le_trans (hwz.1.1).size h3, h4⟩, h5⟩) (fun wz hwz => by go_simp; try (with_reducible rfl))) (fun b : Nat => Value.pointer (some ⟨b, 0, none⟩)) (fun b wz => w5.heap.size ≤ b ∧ Vs wz b [.slice none 0 0]) (fun _ _ _ h hb => ⟨h.1, h.2.call hb⟩) (Fresh.var [.slice none 0 0] 22 rfl (fun wz hwz => (hwz.1.1).size) (fun wz hwz => by go_simp; try (with_reducible rfl)) (R := fun b wz => Vs wz b [.slice none 0 0]) (fun wz hwz => Vs.new wz _ _ _ rfl)) (fun qc w0c hw0c hR0c => ?rg7_3a) (fun bb w0b' hw0b' hR0b' => ?rg7_3b)
        case' rg7_3a =>
          (simp only [Act.put]); (try simp only [List.setIfInBounds_toArray]); (try simp only [List.set_cons_succ]); (try simp only [List.set_cons_zero])
          obtain ⟨gc, lc⟩ := qc; dsimp only
          refine WpG.oneD 9 (some 15) rfl rfl (by kernel_rfl) (fun b : Nat => Value.pointer (some ⟨b, 0, none⟩)) (fun b wz => w5.heap.size ≤ b ∧ Vs wz b [.slice none 0 0]) (fun _ _ _ h hb => ⟨h.1, h.2.call hb⟩) (Fresh.var [.slice none 0 0] 22 rfl (fun wz hwz => (hwz.1.1.1).size) (fun wz hwz => by go_simp; try (with_reducible rfl)) (R := fun b wz => Vs wz b [.slice none 0 0]) (fun wz hwz => Vs.new wz _ _ _ rfl)) (fun bb w0b' hw0b' hR0b' => ?_)
          (simp only [Act.put]); (try simp only [List.setIfInBounds_toArray]); (try simp only [List.set_cons_succ]); (try simp only [List.set_cons_zero])
          refine WpG.takeD 10 (some 13) (v := ?_) rfl rfl (by kernel_rfl) (fun _ _ _ h => h) (.val rfl (fun wz hwz => ?_)) ?_
          rotate_left
          · go_simp; try (with_reducible rfl)
          (simp only [Act.put]); (try simp only [List.setIfInBounds_toArray]); (try simp only [List.set_cons_succ]); (try simp only [List.set_cons_zero])
          refine WpG.takeD 11 (some 14) (v := ?_) rfl rfl (by kernel_rfl) (fun _ _ _ h => h) (.val rfl (fun wz hwz => ?_)) ?_
          rotate_left
          · go_simp; try (with_reducible rfl)
          (simp only [Act.put]); (try simp only [List.setIfInBounds_toArray]); (try simp only [List.set_cons_succ]); (try simp only [List.set_cons_zero])
          refine WpG.done (by kernel_rfl) (fun w6 hS => ⟨ga, gb, gc, bb, rfl, ?_⟩)
          · (obtain ⟨⟨⟨⟨h0, h1⟩, h2⟩, h3⟩, h4⟩ := hS; first | exact ⟨h0, ⟨_, h1⟩, ⟨_, h2⟩, ⟨_, h3⟩, h4⟩ | exact ⟨h0, ⟨_, h1⟩, ⟨_, h2⟩, ⟨_, h4⟩, h3⟩ | exact ⟨h0, ⟨_, h1⟩, ⟨_, h3⟩, ⟨_, h4⟩, h2⟩ | exact ⟨h0, ⟨_, h2⟩, ⟨_, h3⟩, ⟨_, h4⟩, h1⟩)
        case' rg7_3b =>
          (simp only [Act.put]); (try simp only [List.setIfInBounds_toArray]); (try simp only [List.set_cons_succ]); (try simp only [List.set_cons_zero])
          refine WpG.oneD 8 (some 59) rfl rfl (by kernel_rfl) (fun q : Nat × KL F => Value.slice (some ⟨q.1, 0, none⟩) nj nj) (fun q wz => q.2.length = nj ∧ w5.heap.size ≤ q.1 ∧ BlkE wz q.1 (esK q.2)) (fun _ _ _ h hb => ⟨h.1, h.2.1, h.2.2.call hb⟩) (Fresh.call rfl (fun wz hwz => (HJOI.out wz (bl_call hbw (Nat.le_refl _) (hwz.1.1.1)) h62').mono fun e w' ⟨q, h1, ⟨h2, h3, h4⟩, h5⟩ => ⟨q, h1, ⟨h2, Nat.le_trans (hwz.1.1.1).size h3, h4⟩, h5⟩) (fun wz hwz => by go_simp; try (with_reducible rfl))) (fun qc w0c hw0c hR0c => ?_)
          (simp only [Act.put]); (try simp only [List.setIfInBounds_toArray]); (try simp only [List.set_cons_succ]); (try simp only [List.set_cons_zero])
          obtain ⟨gc, lc⟩ := qc; dsimp only
          refine WpG.takeD 10 (some 13) (v := ?_) rfl rfl (by kernel_rfl) (fun _ _ _ h => h) (.val rfl (fun wz hwz => ?_)) ?_
          rotate_left
          · go_simp; try (with_reducible rfl)
          (simp only [Act.put]); (try simp only [List.setIfInBounds_toArray]); (try simp only [List.set_cons_succ]); (try simp only [List.set_cons_zero])
          refine WpG.takeD 11 (some 14) (v := ?_) rfl rfl (by kernel_rfl) (fun _ _ _ h => h) (.val rfl (fun wz hwz => ?_)) ?_
          rotate_left
          · go_simp; try (with_reducible rfl)
          (simp only [Act.put]); (try simp only [List.setIfInBounds_toArray]); (try simp only [List.set_cons_succ]); (try simp only [List.set_cons_zero])
          refine WpG.done (by kernel_rfl) (fun w6 hS => ⟨ga, gb, gc, bb, rfl, ?_⟩)
          · (obtain ⟨⟨⟨⟨h0, h1⟩, h2⟩, h3⟩, h4⟩ := hS; first | exact ⟨h0, ⟨_, h1⟩, ⟨_, h2⟩, ⟨_, h3⟩, h4⟩ | exact ⟨h0, ⟨_, h1⟩, ⟨_, h2⟩, ⟨_, h4⟩, h3⟩ | exact ⟨h0, ⟨_, h1⟩, ⟨_, h3⟩, ⟨_, h4⟩, h2⟩ | exact ⟨h0, ⟨_, h2⟩, ⟨_, h3⟩, ⟨_, h4⟩, h1⟩)
      case' rg7_2b =>
        (simp only [Act.put]); (try simp only [List.setIfInBounds_toArray]); (try simp only [List.set_cons_succ]); (try simp only [List.set_cons_zero])
        refine WpG.oneD 5 (some 56) rfl rfl (by kernel_rfl) (fun q : Nat × KL F => Value.slice (some ⟨q.1, 0, none⟩) ni ni) (fun q wz => q.2.length = ni ∧ w5.heap.size ≤ q.1 ∧ BlkE wz q.1 (esK q.2)) (fun _ _ _ h hb => ⟨h.1, h.2.1, h.2.2.call hb⟩) (Fresh.call rfl (fun wz hwz => (HVEC.out _ ms wz HMS.out (bl_call hbw (Nat.le_refl _) (hwz.1.1)) h61').mono fun e w' ⟨q, h1, ⟨h2, h3, h4⟩, h5⟩ => ⟨q, h1, ⟨h2, Nat.le_trans (hwz.1.1).size h3, h4⟩, h5⟩) (fun wz hwz => by go_simp; try (with_reducible rfl))) (fun qb w0b hw0b hR0b => ?_)
        (simp only [Act.put]); (try simp only [List.setIfInBounds_toArray]); (try simp only [List.set_cons_succ]); (try simp only [List.set_cons_zero])
        obtain ⟨gb, lb⟩ := qb; dsimp only
        refine WpG.oneD 8 (some 59) rfl rfl (by kernel_rfl) (fun q : Nat × KL F => Value.slice (some ⟨q.1, 0, none⟩) nj nj) (fun q wz => q.2.length = nj ∧ w5.heap.size ≤ q.1 ∧ BlkE wz q.1 (esK q.2)) (fun _ _ _ h hb => ⟨h.1, h.2.1, h.2.2.call hb⟩) (Fresh.call rfl (fun wz hwz => (HJOI.out wz (bl_call hbw (Nat.le_refl _) (hwz.1.1.1)) h62').mono fun e w' ⟨q, h1, ⟨h2, h3, h4⟩, h5⟩ => ⟨q, h1, ⟨h2, Nat.le_trans (hwz.1.1.1).size h3, h4⟩, h5⟩) (fun wz hwz => by go_simp; try (with_reducible rfl))) (fun qc w0c hw0c hR0c => ?_)
        (simp only [Act.put]); (try simp only [List.setIfInBounds_toArray]); (try simp only [List.set_cons_succ]); (try simp only [List.set_cons_zero])
        obtain ⟨gc, lc⟩ := qc; dsimp only
        refine WpG.takeD 10 (some 13) (v := ?_) rfl rfl (by kernel_rfl) (fun _ _ _ h => h) (.val rfl (fun wz hwz => ?_)) ?_
        rotate_left
        · go_simp; try (with_reducible rfl)
        (simp only [Act.put]); (try simp only [List.setIfInBounds_toArray]); (try simp only [List.set_cons_succ]); (try simp only [List.set_cons_zero])
        refine WpG.takeD 11 (some 14) (v := ?_) rfl rfl (by kernel_rfl) (fun _ _ _ h => h) (.val rfl (fun wz hwz => ?_)) ?_
        rotate_left
        · go_simp; try (with_reducible rfl)
        (simp only [Act.put]); (try simp only [List.setIfInBounds_toArray]); (try simp only [List.set_cons_succ]); (try simp only [List.set_cons_zero])
        refine WpG.done (by kernel_rfl) (fun w6 hS => ⟨ga, gb, gc, bb, rfl, ?_⟩)
        · (obtain ⟨⟨⟨⟨h0, h1⟩, h2⟩, h3⟩, h4⟩ := hS; first | exact ⟨h0, ⟨_, h1⟩, ⟨_, h2⟩, ⟨_, h3⟩, h4⟩ | exact ⟨h0, ⟨_, h1⟩, ⟨_, h2⟩, ⟨_, h4⟩, h3⟩ | exact ⟨h0, ⟨_, h1⟩, ⟨_, h3⟩, ⟨_, h4⟩, h2⟩ | exact ⟨h0, ⟨_, h2⟩, ⟨_, h3⟩, ⟨_, h4⟩, h1⟩)
    case' rg7_1b =>
      (simp only [Act.put]); (try simp only [List.setIfInBounds_toArray]); (try simp only [List.set_cons_succ]); (try simp only [List.set_cons_zero])
      refine WpG.oneD 2 (some 53) rfl rfl (by kernel_rfl) (fun q : Nat × KL F => Value.slice (some ⟨q.1, 0, none⟩) ni ni) (fun q wz => q.2.length = ni ∧ w5.heap.size ≤ q.1 ∧ BlkE wz q.1 (esK q.2)) (fun _ _ _ h hb => ⟨h.1, h.2.1, h.2.2.call hb⟩) (Fresh.call rfl (fun wz hwz => (HVEC.out _ xs wz HXS.out (bl_call hbw (Nat.le_refl _) (hwz.1)) h60').mono fun e w' ⟨q, h1, ⟨h2, h3, h4⟩, h5⟩ => ⟨q, h1, ⟨h2, Nat.le_trans (hwz.1).size h3, h4⟩, h5⟩) (fun wz hwz => by go_simp; try (with_reducible rfl))) (fun qa w0a hw0a hR0a => ?_)
      (simp only [Act.put]); (try simp only [List.setIfInBounds_toArray]); (try simp only [List.set_cons_succ]); (try simp only [List.set_cons_zero])
      obtain ⟨ga, la⟩ := qa; dsimp only
      refine WpG.oneD 5 (some 56) rfl rfl (by kernel_rfl) (fun q : Nat × KL F => Value.slice (some ⟨q.1, 0, none⟩) ni ni) (fun q wz => q.2.length = ni ∧ w5.heap.size ≤ q.1 ∧ BlkE wz q.1 (esK q.2)) (fun _ _ _ h hb => ⟨h.1, h.2.1, h.2.2.call hb⟩) (Fresh.call rfl (fun wz hwz => (HVEC.out _ ms wz HMS.out (bl_call hbw (Nat.le_refl _) (hwz.1.1)) h61').mono fun e w' ⟨q, h1, ⟨h2, h3, h4⟩, h5⟩ => ⟨q, h1, ⟨h2, Nat.le_trans (hwz.1.1).size h3, h4⟩, h5⟩) (fun wz hwz => by go_simp; try (with_reducible rfl))) (fun qb w0b hw0b hR0b => ?_)
      (simp only [Act.put]); (try simp only [List.setIfInBounds_toArray]); (try simp only [List.set_cons_succ]); (try simp only [List.set_cons_zero])
      obtain ⟨gb, lb⟩ := qb; dsimp only
      refine WpG.oneD 8 (some 59) rfl rfl (by kernel_rfl) (fun q : Nat × KL F => Value.slice (some ⟨q.1, 0, none⟩) nj nj) (fun q wz => q.2.length = nj ∧ w5.heap.size ≤ q.1 ∧ BlkE wz q.1 (esK q.2)) (fun _ _ _ h hb => ⟨h.1, h.2.1, h.2.2.call hb⟩) (Fresh.call rfl (fun wz hwz => (HJOI.out wz (bl_call hbw (Nat.le_refl _) (hwz.1.1.1)) h62').mono fun e w' ⟨q, h1, ⟨h2, h3, h4⟩, h5⟩ => ⟨q, h1, ⟨h2, Nat.le_trans (hwz.1.1.1).size h3, h4⟩, h5⟩) (fun wz hwz => by go_simp; try (with_reducible rfl))) (fun qc w0c hw0c hR0c => ?_)
      (simp only [Act.put]); (try simp only [List.setIfInBounds_toArray]); (try simp only [List.set_cons_succ]); (try simp only [List.set_cons_zero])
      obtain ⟨gc, lc⟩ := qc; dsimp only
      refine WpG.takeD 10 (some 13) (v := ?_) rfl rfl (by kernel_rfl) (fun _ _ _ h => h) (.val rfl (fun wz hwz => ?_)) ?_
      rotate_left
      · go_simp; try (with_reducible rfl)
      (simp only [Act.put]); (try simp only [List.setIfInBounds_toArray]); (try simp only [List.set_cons_succ]); (try simp only [List.set_cons_zero])
      refine WpG.takeD 11 (some 14) (v := ?_) rfl rfl (by kernel_rfl) (fun _ _ _ h => h) (.val rfl (fun wz hwz => ?_)) ?_
      rotate_left
      · go_simp; try (with_reducible rfl)
      (simp only [Act.put]); (try simp only [List.setIfInBounds_toArray]); (try simp only [List.set_cons_succ]); (try simp only [List.set_cons_zero])
      refine WpG.done (by kernel_rfl) (fun w6 hS => ⟨ga, gb, gc, bb, rfl, ?_⟩)
      · (obtain ⟨⟨⟨⟨h0, h1⟩, h2⟩, h3⟩, h4⟩ := hS; first | exact ⟨h0, ⟨_, h1⟩, ⟨_, h2⟩, ⟨_, h3⟩, h4⟩ | exact ⟨h0, ⟨_, h1⟩, ⟨_, h2⟩, ⟨_, h4⟩, h3⟩ | exact ⟨h0, ⟨_, h1⟩, ⟨_, h3⟩, ⟨_, h4⟩, h2⟩ | exact ⟨h0, ⟨_, h2⟩, ⟨_, h3⟩, ⟨_, h4⟩, h1⟩)
  intro ga gb gc bb w6 hS
  (try simp only [List.drop_succ_cons]); (try simp only [List.drop_zero]); (try simp only [Nat.reduceSub]); (try simp only [List.take_succ_cons]); (try simp only [List.take_zero])
  obtain ⟨hb6, ⟨la, hla, hga, hA6⟩, ⟨lb, hlb, hgb, hB6⟩, ⟨lc, hlc, hgc, hC6⟩, hbb, hbj⟩ := hS
  clear Y0 Y1 Y2 Y3 Y4 Y5 Y6 Y7 Y8 Y9 Y10 Y11 Y12
  replace hbw := bl_call hbw (Nat.le_refl _) hb6
  replace hY := hY.call hb6
  replace hF5 := hF5.call hb6
  replace hab := hab.call hb6
  clear hb6 HVEC HJOI HCIR HAW HXS HMS hs h60 h61 h62 h63
  have na := blk_ne hA6 hbj
  have nb := blk_ne hB6 hbj
  have nc := blk_ne hC6 hbj
  have HLA := Lib.hid hla
  have HLB := Lib.hid hlb
  have HLC := Lib.hid hlc
  clear hla hlb hlc
  obtain ⟨bj0, bj1, bj2⟩ := hbj.get1
  go_upto_region 8 with fail
  clear bj0 bj1 bj2
  replace hbj : Vs (w6.setCell ⟨bb, 0, none⟩ (.slice (some ⟨gc, 0, none⟩) nj nj)) bb [.slice (some ⟨gc, 0, none⟩) nj nj] := hbj.put 0 (by simp) _
  replace hY := hY.far (p := ⟨bb, 0, none⟩) (by dsimp only; omega) (.slice (some ⟨gc, 0, none⟩) nj nj)
  replace hF5 := hF5.far (p := ⟨bb, 0, none⟩) (by dsimp only; omega) (.slice (some ⟨gc, 0, none⟩) nj nj)
  replace hab := hab.far (p := ⟨bb, 0, none⟩) (by dsimp only; omega) (.slice (some ⟨gc, 0, none⟩) nj nj)
  replace hA6 := hA6.far (p := ⟨bb, 0, none⟩) na (.slice (some ⟨gc, 0, none⟩) nj nj)
  replace hB6 := hB6.far (p := ⟨bb, 0, none⟩) nb (.slice (some ⟨gc, 0, none⟩) nj nj)
  replace hC6 := hC6.far (p := ⟨bb, 0, none⟩) nc (.slice (some ⟨gc, 0, none⟩) nj nj)
  replace hbw := bl_set (p := ⟨bb, 0, none⟩) hbw (by dsimp only; omega) (.slice (some ⟨gc, 0, none⟩) nj nj)
  generalize w6.setCell ⟨bb, 0, none⟩ (.slice (some ⟨gc, 0, none⟩) nj nj) = w7 at *
  obtain ⟨F50, F51, F52⟩ := hF5.get1
  go_wp2_with fail
  clear F50 F51 F52
  have l7a := hA6.lt
  have l7b := hB6.lt
  have l7c := hC6.lt
  have l7j := hbj.lt
  refine (HSV.out w7 ga gb la lb hA6 hB6 HLA.out HLB.out).mono ?_
  rintro e w8 ⟨gs, rfl, hS6, hgs, hb8⟩
  replace hbw := bl_call hbw (Nat.le_refl _) hb8
  replace hY := hY.call hb8
  replace hF5 := hF5.call hb8
  replace hab := hab.call hb8
  replace hbj := hbj.call hb8
  replace hA6 := hA6.call hb8
  replace hB6 := hB6.call hb8
  replace hC6 := hC6.call hb8
  clear hb8 HSV
  go_upto_region 10 with fail
  have l8s := hS6.lt
  have hwb := (Vs.new w8 [.slice none 0 0] #[.slice none 0 0] 22 rfl).alloc (.cells #[.slice none 0 0] 22)
  have hpb := Vs.new (w8.alloc (.cells #[.slice none 0 0] 22)) [.slice none 0 0] #[.slice none 0 0] 22 rfl
  simp only [World.size_alloc] at hpb
  have hb9 : Below w8.heap.size w8 ((w8.alloc (.cells #[.slice none 0 0] 22)).alloc (.cells #[.slice none 0 0] 22)) := by repeat (first | exact Below.refl _ _ | with_reducible assumption | (refine bl_alloc ?_ (Nat.le_refl _) _))
  have hszn : w8.heap.size + 2 ≤ ((w8.alloc (.cells #[.slice none 0 0] 22)).alloc (.cells #[.slice none 0 0] 22)).heap.size := by simp only [World.size_alloc]; omega
  generalize ((w8.alloc (.cells #[.slice none 0 0] 22)).alloc (.cells #[.slice none 0 0] 22)) = w9 at hwb hpb hb9 hszn ⊢
  replace hbw := bl_call hbw (Nat.le_refl _) hb9
  replace hY := hY.call hb9
  replace hF5 := hF5.call hb9
  replace hab := hab.call hb9
  replace hbj := hbj.call hb9
  replace hA6 := hA6.call hb9
  replace hB6 := hB6.call hb9
  replace hC6 := hC6.call hb9
  replace hS6 := hS6.call hb9
  obtain ⟨wb, hwbe⟩ : ∃ z, w8.heap.size = z := ⟨_, rfl⟩
  rw [hwbe] at hwb hpb l8s hszn
  simp only [hwbe]
  have hs89 := hb9.size
  clear hb9
  have l9w : wb + 1 < w9.heap.size := hpb.lt
  have N : (w.heap.size ≤ ab ∧ ab < xb ∧ xb < fb ∧ fb < w5.heap.size) ∧ (w5.heap.size ≤ ga ∧ w5.heap.size ≤ gb ∧ w5.heap.size ≤ gc ∧ w5.heap.size ≤ bb) ∧ (ga < w7.heap.size ∧ gb < w7.heap.size ∧ gc < w7.heap.size ∧ bb < w7.heap.size) ∧ (w7.heap.size ≤ gs ∧ gs < wb ∧ w7.heap.size ≤ wb ∧ wb + 1 < w9.heap.size) := by
    refine ⟨⟨hsab, by omega, by omega, by omega⟩, ⟨hga, hgb, hgc, hbb⟩, ⟨l7a, l7b, l7c, l7j⟩, hgs, l8s, by omega, l9w⟩
  obtain ⟨⟨N1, N2, N3, N4⟩, ⟨N5, N6, N7, N8⟩, ⟨M1, M2, M3, M4⟩, M5, M6, M7, M8⟩ := N
  clear hsab hga hgb hgc hbb l7a l7b l7c l7j hgs l8s l9w hs3 hs0 hs4 hs5 hs89 hszn hwbe na nb nc
  obtain ⟨A, hAA⟩ : ∃ A : Nat → Fin (Pm F), (fun k => gval (y.gad F) (argOf y la lc 1 k)) = A := ⟨_, rfl⟩
  have HSM := HSUM.out la lb lc HLA.out HLB.out
  have H1 := Lib.hid (HONE.out la lc HLA.out HLC.out ga gc xb fb wb bb (by omega) (by omega))
  have H2 := Lib.hid (HTWO.out lb lc HLB.out HLC.out gb gc xb fb ab (wb + 1) bb w A4 c4 ys rb HOK4.out HRB.out HA.out h63' (by omega) (by omega) (by omega) (by omega) (by omega))
  have H3 := Lib.hid (HTHR.out (List.zipWith (· - ·) la lb) lc (by rw [List.length_zipWith, HLA.out, HLB.out, Nat.min_self]) HLC.out gs gc xb fb wb (wb + 1) bb)
  rw [hAA] at HSM H1
  have HAL : (ansL A y.calls).length = y.calls := ansL_length _ _
  have HTL : (ansL (ansTwo F ys) y.calls).length = y.calls := ansL_length _ _
  clear hAA HONE HTWO HTHR HSUM HA HOK4
  generalize ansL A y.calls = wl at *
  generalize ansL (ansTwo F ys) y.calls = pl at *
  have HAL2 := Lib.hid HAL
  have HTL2 := Lib.hid HTL
  clear HAL HTL
  obtain ⟨ra, hra⟩ : ∃ z, runF y la lc 1 A = z := ⟨_, rfl⟩
  obtain ⟨rx, hrx⟩ : ∃ z, runF y lb lc (kinv (nK F 2)) (ansTwo F ys) = z := ⟨_, rfl⟩
  obtain ⟨ry, hry⟩ : ∃ z, runF y (List.zipWith (· - ·) la lb) lc (kinv (nK F 2)) (fun k => wl.getD k 0 - pl.getD k 0) = z := ⟨_, rfl⟩
  rw [hra] at H1
  rw [hrx] at H2
  rw [hra, hrx, hry] at HSM
  have HRY := Lib.hid hry
  have HSS := Lib.hid HSM
  clear hra hrx hry HSM
  generalize y.calls = nc at *
  go_wp2_with fail
  refine (H1.out w9 hA6 hC6 (by omega) (by omega) hY hF5 hwb hbj).mono ?_
  rintro e w10 ⟨rfl, hY, hF5, ⟨g1, cp1, hwb, hr1, hg1, hg1l⟩, hE⟩
  have Z9 := hE.size
  replace hab := hab.exc (by show ¬ (_ ∨ _ ∨ _); omega) hE
  replace hbj := hbj.exc (by show ¬ (_ ∨ _ ∨ _); omega) hE
  replace hpb := hpb.exc (by show ¬ (_ ∨ _ ∨ _); omega) hE
  replace hB6 := hB6.exc (by show ¬ (_ ∨ _ ∨ _); omega) hE
  replace hC6 := hC6.exc (by show ¬ (_ ∨ _ ∨ _); omega) hE
  replace hS6 := hS6.exc (by show ¬ (_ ∨ _ ∨ _); omega) hE
  replace hbw : Below w.heap.size w w10 := hbw.trans ((hE.mono hbw.size).below fun q hq h => by rcases h with rfl | rfl | rfl <;> omega)
  clear hE H1 hA6
  go_upto_region 12 with fail
  have hta := V2.new w10 (.int .u64 (lo ra)) (.int .u64 (hi ra)) 41
  have hbA : Below w10.heap.size w10 (w10.alloc (.cells #[.int .u64 (lo ra), .int .u64 (hi ra)] 41)) := by repeat (first | exact Below.refl _ _ | with_reducible assumption | (refine bl_alloc ?_ (Nat.le_refl _) _))
  replace hbw := bl_call hbw (Nat.le_refl _) hbA
  replace hY := hY.call hbA
  replace hF5 := hF5.call hbA
  replace hab := hab.call hbA
  replace hbj := hbj.call hbA
  replace hB6 := hB6.call hbA
  replace hC6 := hC6.call hbA
  replace hS6 := hS6.call hbA
  replace hwb := hwb.call hbA
  replace hpb := hpb.call hbA
  replace hr1 := hr1.call hbA
  clear hbA
  generalize w10.alloc (.cells #[.int .u64 (lo ra), .int .u64 (hi ra)] 41) = w11 at hbw hY hF5 hab hbj hB6 hC6 hS6 hwb hpb hr1 hta ⊢
  have Z11 := hta.lt
  obtain ⟨ta, htae⟩ : ∃ z, w10.heap.size = z := ⟨_, rfl⟩
  rw [htae] at hta Z11 hg1l Z9
  simp only [htae]
  clear htae
  have hrw11 : ∀ q, rb = some q → w11.heap[q]? = w.heap[q]? := fun q hq => hbw.block q (HRB.out q hq)
  go_wp2_with fail
  refine (H2.out w11 hbw.size hrw11 hB6 hC6 ⟨by omega, by omega, by omega, by omega⟩ ⟨by omega, by omega, by omega, by omega⟩ hY hF5 hab hpb hbj).mono ?_
  rintro e w12 ⟨rfl, hF5, ⟨g2, cp2, hpb, hr2, hg2, hg2l⟩, hrw12, hE⟩
  have Z12 := hE.size
  have hno : ∀ q, q ≠ fb → q ≠ ab → q ≠ wb + 1 → w.heap.size ≤ q → ¬ FxTwo fb ab (wb + 1) rb q := fun q h1 h2 h3 h4 h => by
    rcases h with h | h | h | h
    · exact h1 h
    · exact h2 h
    · exact h3 h
    · have := HRB.out q h
      omega
  replace hY := hY.exc (hno _ (by omega) (by omega) (by omega) (by omega)) hE
  replace hbj := hbj.exc (hno _ (by omega) (by omega) (by omega) (by omega)) hE
  replace hwb := hwb.exc (hno _ (by omega) (by omega) (by omega) (by omega)) hE
  replace hC6 := hC6.exc (hno _ (by omega) (by omega) (by omega) (by omega)) hE
  replace hS6 := hS6.exc (hno _ (by omega) (by omega) (by omega) (by omega)) hE
  replace hr1 := hr1.exc (hno _ (by omega) (by omega) (by omega) (by omega)) hE
  replace hta := hta.exc (hno _ (by omega) (by omega) (by omega) (by omega)) hE
  replace hbw : Below w.heap.size w w12 := below_two hbw hE hrw12 (by omega) (by omega) (by omega)
  clear hE H2 hB6 hab hrw11 hrw12 hno
  go_upto_region 13 with fail
  have htx := V2.new w12 (.int .u64 (lo rx)) (.int .u64 (hi rx)) 41
  have hbA : Below w12.heap.size w12 (w12.alloc (.cells #[.int .u64 (lo rx), .int .u64 (hi rx)] 41)) := by repeat (first | exact Below.refl _ _ | with_reducible assumption | (refine bl_alloc ?_ (Nat.le_refl _) _))
  replace hbw := bl_call hbw (Nat.le_refl _) hbA
  replace hY := hY.call hbA
  replace hF5 := hF5.call hbA
  replace hbj := hbj.call hbA
  replace hC6 := hC6.call hbA
  replace hS6 := hS6.call hbA
  replace hwb := hwb.call hbA
  replace hpb := hpb.call hbA
  replace hr1 := hr1.call hbA
  replace hr2 := hr2.call hbA
  replace hta := hta.call hbA
  clear hbA
  generalize w12.alloc (.cells #[.int .u64 (lo rx), .int .u64 (hi rx)] 41) = w13 at hbw hY hF5 hbj hC6 hS6 hwb hpb hr1 hr2 hta htx ⊢
  have Z13 := htx.lt
  obtain ⟨tx, htxe⟩ : ∃ z, w12.heap.size = z := ⟨_, rfl⟩
  rw [htxe] at htx Z13 hg2l Z12
  simp only [htxe]
  clear htxe
  go_wp2_with fail
  refine (H3.out g1 cp1 g2 cp2 wl pl HAL2.out HTL2.out w13 hS6 hC6 ⟨by omega, by omega, by omega, by omega, by omega⟩ ⟨by omega, by omega, by omega, by omega, by omega⟩ hY hF5 hwb hpb hbj (by omega) hr1 (by omega) hr2).mono ?_
  intro e w14 ⟨he, hF5', hE⟩
  rw [HRY.out] at he
  subst he
  have Z14 := hE.size
  replace hta := hta.exc (by show ¬ (_ ∨ _ ∨ _ ∨ _ ∨ _); omega) hE
  replace htx := htx.exc (by show ¬ (_ ∨ _ ∨ _ ∨ _ ∨ _); omega) hE
  replace hbw : Below w.heap.size w w14 := hbw.trans ((hE.mono hbw.size).below fun q hq h => by rcases h with rfl | rfl | rfl | rfl | rfl <;> omega)
  replace hF5 := hF5'
  clear hE H3 hS6 hC6 hY hbj hwb hpb hr1 hr2 hF5'
  go_upto_region 14 with fail
  have hty := V2.new w14 (.int .u64 (lo ry)) (.int .u64 (hi ry)) 41
  have hbA : Below w14.heap.size w14 (w14.alloc (.cells #[.int .u64 (lo ry), .int .u64 (hi ry)] 41)) := by repeat (first | exact Below.refl _ _ | with_reducible assumption | (refine bl_alloc ?_ (Nat.le_refl _) _))
  replace hbw := bl_call hbw (Nat.le_refl _) hbA
  replace hF5 := hF5.call hbA
  replace hta := hta.call hbA
  replace htx := htx.call hbA
  clear hbA
  generalize w14.alloc (.cells #[.int .u64 (lo ry), .int .u64 (hi ry)] 41) = w15 at hbw hF5 hta htx hty ⊢
  have HAD : Hid (∀ wz, Calls Try.prog 52 #[.int .u8 (F : Int), vK rx, vK ry] wz (RetK ra wz)) := fun wz => by
    have h := HADD.out rx ry wz
    rwa [HSS.out] at h
  obtain ⟨F50, F51, F52⟩ := hF5.get1
  obtain ⟨ta0, ta1, ta2, ta3, ta4⟩ := V2.mk hta.c0 hta.c1 hta.f0 hta.f1 hta.lt
  obtain ⟨tx0, tx1, tx2, tx3, tx4⟩ := V2.mk htx.c0 htx.c1 htx.f0 htx.f1 htx.lt
  obtain ⟨ty0, ty1, ty2, ty3, ty4⟩ := V2.mk hty.c0 hty.c1 hty.f0 hty.f1 hty.lt
  refine region_B (n := 18) (m := 19) (f := 18) (by kernel_rfl) (by kernel_rfl) rfl ?_
  refine WpH.takeD 0 (some 89) (v := ?_) rfl rfl (by kernel_rfl) (fun _ _ _ h => h) (.val rfl (fun wz hwz => ?_)) ?_
  rotate_left
  · go_simp; try (with_reducible rfl)
  (simp only [Act.put]); (try simp only [List.setIfInBounds_toArray]); (try simp only [List.set_cons_succ]); (try simp only [List.set_cons_zero])
  refine WpH.takeD 1 (some 90) (v := ?_) rfl rfl (by kernel_rfl) (fun _ _ _ h => h) (.val rfl (fun wz hwz => ?_)) ?_
  rotate_left
  · go_simp; try (with_reducible rfl)
  (simp only [Act.put]); (try simp only [List.setIfInBounds_toArray]); (try simp only [List.set_cons_succ]); (try simp only [List.set_cons_zero])
  refine WpH.takeD 2 (some 91) (v := ?_) rfl rfl (by kernel_rfl) (fun _ _ _ h => h) (.val rfl (fun wz hwz => ?_)) ?_
  rotate_left
  · go_simp; try (with_reducible rfl)
  (simp only [Act.put]); (try simp only [List.setIfInBounds_toArray]); (try simp only [List.set_cons_succ]); (try simp only [List.set_cons_zero])
  refine WpH.takeD 3 (some 92) (v := ?_) rfl rfl (by kernel_rfl) (fun _ _ _ h => h) (.val rfl (fun wz hwz => ?_)) ?_
  rotate_left
  · go_simp; try (with_reducible rfl)
  (simp only [Act.put]); (try simp only [List.setIfInBounds_toArray]); (try simp only [List.set_cons_succ]); (try simp only [List.set_cons_zero])
  refine WpH.takeD 4 (some 93) (v := ?_) rfl rfl (by kernel_rfl) (fun _ _ _ h => h) (.val rfl (fun wz hwz => ?_)) ?_
  rotate_left
  · go_simp; try (with_reducible rfl)
  (simp only [Act.put]); (try simp only [List.setIfInBounds_toArray]); (try simp only [List.set_cons_succ]); (try simp only [List.set_cons_zero])
  refine WpH.takeD 5 (some 94) (v := ?_) rfl rfl (by kernel_rfl) (fun _ _ _ h => h) (.val rfl (fun wz hwz => ?_)) ?_
  rotate_left
  · go_simp; try (with_reducible rfl)
  (simp only [Act.put]); (try simp only [List.setIfInBounds_toArray]); (try simp only [List.set_cons_succ]); (try simp only [List.set_cons_zero])
  refine WpH.takeD 6 (some 95) (v := ?_) rfl rfl (by kernel_rfl) (fun _ _ _ h => h) (.val rfl (fun wz hwz => ?_)) ?_
  rotate_left
  · go_simp; try (with_reducible rfl)
  (simp only [Act.put]); (try simp only [List.setIfInBounds_toArray]); (try simp only [List.set_cons_succ]); (try simp only [List.set_cons_zero])
  refine WpH.takeD 7 (some 96) (v := ?_) rfl rfl (by kernel_rfl) (fun _ _ _ h => h) (.val rfl (fun wz hwz => ?_)) ?_
  rotate_left
  · go_simp; try (with_reducible rfl)
  (simp only [Act.put]); (try simp only [List.setIfInBounds_toArray]); (try simp only [List.set_cons_succ]); (try simp only [List.set_cons_zero])
  refine WpH.takeD 8 (some 97) (v := ?_) rfl rfl (by kernel_rfl) (fun _ _ _ h => h) (.val rfl (fun wz hwz => ?_)) ?_
  rotate_left
  · go_simp; try (with_reducible rfl)
  (simp only [Act.put]); (try simp only [List.setIfInBounds_toArray]); (try simp only [List.set_cons_succ]); (try simp only [List.set_cons_zero])
  refine WpH.takeD 9 (some 98) (v := ?_) rfl rfl (by kernel_rfl) (fun _ _ _ h => h) (.val rfl (fun wz hwz => ?_)) ?_
  rotate_left
  · go_simp; try (with_reducible rfl)
  (simp only [Act.put]); (try simp only [List.setIfInBounds_toArray]); (try simp only [List.set_cons_succ]); (try simp only [List.set_cons_zero])
  refine WpH.takeD 10 (some 99) (v := ?_) rfl rfl (by kernel_rfl) (fun _ _ _ h => h) (.val rfl (fun wz hwz => ?_)) ?_
  rotate_left
  · go_simp; try (with_reducible rfl)
  (simp only [Act.put]); (try simp only [List.setIfInBounds_toArray]); (try simp only [List.set_cons_succ]); (try simp only [List.set_cons_zero])
  refine WpH.takeD 11 (some 100) (v := ?_) rfl rfl (by kernel_rfl) (fun _ _ _ h => h) (.val rfl (fun wz hwz => ?_)) ?_
  rotate_left
  · (obtain ⟨hcz, hfz⟩ := bcell hwz; go_simp; try (with_reducible rfl))
  (simp only [Act.put]); (try simp only [List.setIfInBounds_toArray]); (try simp only [List.set_cons_succ]); (try simp only [List.set_cons_zero])
  refine WpH.takeD 12 (some 101) (v := ?_) rfl rfl (by kernel_rfl) (fun _ _ _ h => h) (.val rfl (fun wz hwz => ?_)) ?_
  rotate_left
  · (obtain ⟨hcz, hfz⟩ := bcell hwz; go_simp; try (with_reducible rfl))
  (simp only [Act.put]); (try simp only [List.setIfInBounds_toArray]); (try simp only [List.set_cons_succ]); (try simp only [List.set_cons_zero])
  refine WpH.takeD 13 (some 102) (v := ?_) rfl rfl (by kernel_rfl) (fun _ _ _ h => h) (.val rfl (fun wz hwz => ?_)) ?_
  rotate_left
  · (obtain ⟨hcz, hfz⟩ := bcell hwz; go_simp; try (with_reducible rfl))
  (simp only [Act.put]); (try simp only [List.setIfInBounds_toArray]); (try simp only [List.set_cons_succ]); (try simp only [List.set_cons_zero])
  refine WpH.takeD 14 (some 103) rfl rfl (by kernel_rfl) (fun _ _ _ h => h) (.call rfl (fun wz hwz => HAD.out wz) (fun wz hwz => ?_)) ?_
  · go_simp; try (with_reducible rfl)
  (simp only [Act.put]); (try simp only [List.setIfInBounds_toArray]); (try simp only [List.set_cons_succ]); (try simp only [List.set_cons_zero])
  refine WpH.takeD 15 (some 104) (v := ?_) rfl rfl (by kernel_rfl) (fun _ _ _ h => h) (.val rfl (fun wz hwz => ?_)) ?_
  rotate_left
  · (obtain ⟨hcz, hfz⟩ := bcell hwz; go_simp; try (with_reducible rfl))
  (simp only [Act.put]); (try simp only [List.setIfInBounds_toArray]); (try simp only [List.set_cons_succ]); (try simp only [List.set_cons_zero])
  refine WpH.takeD 16 (some 105) (v := ?_) rfl rfl (by kernel_rfl) (fun _ _ _ h => h) (.val rfl (fun wz hwz => ?_)) ?_
  rotate_left
  · go_simp; try (with_reducible rfl)
  (simp only [Act.put]); (try simp only [List.setIfInBounds_toArray]); (try simp only [List.set_cons_succ]); (try simp only [List.set_cons_zero])
  refine WpH.takeD 17 (some 106) (v := ?_) rfl rfl (by kernel_rfl) (fun _ _ _ h => h) (.val rfl (fun wz hwz => ?_)) ?_
  rotate_left
  · go_simp; try (with_reducible rfl)
  (simp only [Act.put]); (try simp only [List.setIfInBounds_toArray]); (try simp only [List.set_cons_succ]); (try simp only [List.set_cons_zero])
  refine WpH.doneB (by kernel_rfl) (fun w16 hw16 => ?_)
  (try simp only [List.drop_succ_cons]); (try simp only [List.drop_zero]); (try simp only [Nat.reduceSub]); (try simp only [List.take_succ_cons]); (try simp only [List.take_zero])
  replace hbw := bl_call hbw (Nat.le_refl _) hw16
  replace hF5 := hF5.call hw16
  replace hta := hta.call hw16
  replace htx := htx.call hw16
  replace hty := hty.call hw16
  go_wp2_with fail
  go_ret
  exact ⟨rfl, hbw⟩

end Go.Proofs.Ytiphahbeedeebaa
