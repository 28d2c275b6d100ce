/-
  WALK: tallymanlaw10.CircuitRuns.
-/
import Derived.Test.YtiphahbeedeebaaMav
import Derived.Test.YtiphahbeedeebaaMay
import Derived.Test.YtiphahbeedeebaaOpen10M
import Derived.Test.YtiphahbeedeebaaMah
namespace Go.Proofs.Ytiphahbeedeebaa
open Go.RowKit Fm
set_option linter.unusedVariables false
set_option maxRecDepth 100000

theorem test_is2 {p : Prop} {w : World} {e : Ending} {w' : World} {b : Bool} (h : RetTest p w e w') (hb : b = true ↔ p) : e = .returned (.bool b) ∧ Below w.heap.size w w' := by
  obtain ⟨⟨c, rfl, hc⟩, hw⟩ := h
  have : c = b := by
    cases c <;> cases b <;> simp_all
  exact ⟨by rw [this], hw⟩

set_option maxHeartbeats 8000000 in
theorem walk_CircuitRuns (k f b l m c : Int) (vl vj : Value) (xs rs : List E) (sm : Bool) (w : World) (hk : 0 ≤ k ∧ k ≤ 255) (hf : 0 ≤ f ∧ f ≤ 255) (hb : 0 ≤ b ∧ b ≤ 255) (hl : 0 ≤ l ∧ l ≤ 255) (hm : 0 ≤ m ∧ m ≤ 255) (hc : 0 ≤ c ∧ c ≤ 255)
    (hxs : SlE w w.heap.size vl xs) (hrs : SlE w w.heap.size vj rs) :
    Calls Try.prog 16 #[.agg #[.int .u8 k, .int .u8 f, .int .u8 b, .int .u8 l, .int .u8 m, .int .u8 c], vl, vj, .bool sm] w fun e w' => e = .returned (.bool true) ∧ Below w.heap.size w w' := by
  obtain ⟨F, y, hF, hy, hCIR⟩ := law10_Circuit k f b l m c hk.1 hk.2 hf.1 hf.2 hb.1 hb.2 hl.1 hl.2 hm.1 hm.2 hc.1 hc.2
  have hmf : ∀ (fn : Fn) (first cap : Array Value) (w : World), (Instr.makeFunc fn first cap).run Try.prog w = .ok (.func fn first cap) w := fun _ _ _ _ => rfl
  have hyk := y.k_le
  have hFF := hF.or
  have hcl : y.calls ≤ 511 := by have := hy.calls; omega
  have HCIR := Lib.hid hCIR
  have HAW := Lib.hid law10_Awake
  have HREF : Hid (∀ wz, Calls Try.prog 39 #[y.val F] wz fun e w' => e = .returned (y.rval F) ∧ Below wz.heap.size wz w') :=
    fun wz => law10_Ref y.k F y.b y.l y.m y.c (by omega) (by omega) (by omega) (by omega) wz
  have HVEC : Hid (∀ wz, Below w.heap.size w wz → xs.length ≤ 60 → Calls Try.prog 44 #[y.val F, vl, .bool sm] wz fun e w' => ∃ q : Nat × KL F, e = .returned (.slice (some ⟨q.1, 0, none⟩) y.nin y.nin) ∧ (q.2.length = y.nin ∧ wz.heap.size ≤ q.1 ∧ BlkE w' q.1 (esK q.2)) ∧ Below wz.heap.size wz w') :=
    fun wz hb h60 => (law10_Vector hF y hy.ok vl xs sm wz ((hxs.below hb).mono hb.size) h60).mono fun e w' ⟨g, zs, h1, h2, h3, h4, h5⟩ => ⟨(g, zs), h2, ⟨h1, h4, h3⟩, h5⟩
  have HJOI : Hid (∀ wz, Below w.heap.size w wz → rs.length ≤ 60 → Calls Try.prog 74 #[y.val F, vj, .int .i64 1] wz fun e w' => ∃ q : Nat × KL F, e = .returned (.slice (some ⟨q.1, 0, none⟩) y.joint y.joint) ∧ (q.2.length = y.joint ∧ wz.heap.size ≤ q.1 ∧ BlkE w' q.1 (esK q.2)) ∧ Below wz.heap.size wz w') :=
    fun wz hb h60 => (law10_Joint hF y hy.ok hcl vj rs wz ((hrs.below hb).mono hb.size) h60).mono fun e w' ⟨g, zs, h1, h2, h3, h4, h5⟩ => ⟨(g, zs), h2, ⟨h1, h4, h3⟩, h5⟩
  have HRUN := Lib.hid (fun (gv gj cb yb : Nat) (v j : KL F) (h1 : v.length = y.nin) (h2 : j.length = y.joint) => run_run hF y hy.ok hcl gv gj cb yb v j h1 h2)
  have HCAL := Lib.hid (fun wz => circuit_Calls F y hy.ok wz)
  have HDIR : Hid (∀ wz vl vj (v j : KL F), SlK wz wz.heap.size vl v → SlK wz wz.heap.size vj j → v.length = y.nin → j.length = y.joint → Calls Try.prog 76 #[y.rval F, vl, vj] wz (RetK (dirF y v j) wz)) :=
    fun wz vl vj v j h1 h2 h3 h4 => ref9_Direct hF y hy.ok hcl vl vj v j wz h1 h2 h3 h4
  have HRVAL : Hid (∀ wz v (zs : KL F) (t : Bool), SlK wz wz.heap.size v zs → zs.length = y.nin → (t = true ↔ okVec y zs) → Calls Try.prog 46 #[y.rval F, v] wz fun e w' => e = .returned (.bool t) ∧ Below wz.heap.size wz w') :=
    fun wz v zs t hs hn ht => (ref9_Valid hF y hy.ok hy.calls v zs wz hs hn).mono fun _ _ h => test_is2 h ht
  have HZERO : Hid (∀ v j : KL F, v.length = y.nin → okVec y v → dirF y v j = 0) := fun v j h1 h2 => dirF_ok y hy.ok v j h1 h2
  have hnin : y.nin ≤ 2048 := CK.nin_le hy.ok
  have hjn : y.joint ≤ 512 := by cases y <;> simp only [CK.joint] <;> (try simp only [CK.calls] at hcl ⊢) <;> omega
  have EQL : ∀ (a0 a1 b0 b1 : Int) (wz : World), (Op.equalIn 10000 41 (.agg #[.int .u64 a0, .int .u64 a1]) (.agg #[.int .u64 b0, .int .u64 b1])).run Try.prog wz = .ok (a0 == b0 && a1 == b1) wz := fun a0 a1 b0 b1 wz => run_equalIn_elem 9998 a0 a1 b0 b1 wz
  unfold CK.val at HCIR HREF HVEC HJOI HRUN HCAL
  unfold CK.rval at HREF HDIR HRVAL
  clear hCIR hyk hFF hy hcl
  obtain ⟨⟨A1, c1, rfl, hc1, hm1, _⟩, _⟩ := hxs
  obtain ⟨⟨A2, c2, rfl, hc2, hm2, _⟩, _⟩ := hrs
  generalize ((y.k : Nat) : Int) = yk at *
  generalize ((y.b : Nat) : Int) = yb at *
  generalize ((y.l : Nat) : Int) = yl at *
  generalize ((y.m : Nat) : Int) = ym at *
  generalize ((y.c : Nat) : Int) = yc at *
  generalize y.nin = ni at *
  generalize y.joint = nj at *
  have hb00 : Below w.heap.size w w := Below.refl _ _
  go_enter Try.func16, Try.ntmps16
  go_upto_region 1 with fail
  have hs := Vs.new w [.int .u8 k, .int .u8 f, .int .u8 b, .int .u8 l, .int .u8 m, .int .u8 c] #[.int .u8 k, .int .u8 f, .int .u8 b, .int .u8 l, .int .u8 m, .int .u8 c] 62 rfl
  have hbA : Below w.heap.size w (w.alloc (.cells #[.int .u8 k, .int .u8 f, .int .u8 b, .int .u8 l, .int .u8 m, .int .u8 c] 62)) := by repeat (first | exact Below.refl _ _ | with_reducible assumption | (refine bl_alloc ?_ (Nat.le_refl _) _))
  replace hb00 := bl_call hb00 (Nat.le_refl _) hbA
  clear hbA
  generalize w.alloc (.cells #[.int .u8 k, .int .u8 f, .int .u8 b, .int .u8 l, .int .u8 m, .int .u8 c] 62) = w1 at hb00 hs ⊢
  by_cases h60 : 60 < xs.length
  · skip
    go_wp2_with (first
      | (go_at_call 35; refine (HAW.out _).mono ?_; rintro e w2 ⟨rfl, hb2⟩; replace hb00 := bl_call hb00 (Nat.le_refl _) hb2; replace hs := hs.call hb2))
    go_ret
    exact ⟨rfl, hb00⟩
  by_cases h61 : 60 < rs.length
  · skip
    go_wp2_with (first
      | (go_at_call 35; refine (HAW.out _).mono ?_; rintro e w2 ⟨rfl, hb2⟩; replace hb00 := bl_call hb00 (Nat.le_refl _) hb2; replace hs := hs.call hb2))
    go_ret
    exact ⟨rfl, hb00⟩
  obtain ⟨⟨s0, s1, s2, s3, s4, s5⟩, ⟨s6, s7, s8, s9, s10, s11⟩, s12⟩ := hs.get6
  go_upto_region 5 with (first
    | (go_at_call 35; refine (HAW.out _).mono ?_; rintro e w2 ⟨rfl, hb2⟩; replace hb00 := bl_call hb00 (Nat.le_refl _) hb2; replace hs := hs.call hb2; clear s0 s1 s2 s3 s4 s5 s6 s7 s8 s9 s10 s11 s12; clear hb2; obtain ⟨⟨s0, s1, s2, s3, s4, s5⟩, ⟨s6, s7, s8, s9, s10, s11⟩, s12⟩ := hs.get6))
  go_upto_region 6 with (first
    | (go_at_call 36; refine (HCIR.out _).mono ?_; rintro e w3 ⟨rfl, hb3⟩; replace hb00 := bl_call hb00 (Nat.le_refl _) hb3; replace hs := hs.call hb3; clear s0 s1 s2 s3 s4 s5 s6 s7 s8 s9 s10 s11 s12; clear hb3; obtain ⟨⟨s0, s1, s2, s3, s4, s5⟩, ⟨s6, s7, s8, s9, s10, s11⟩, s12⟩ := hs.get6))
  clear s0 s1 s2 s3 s4 s5 s6 s7 s8 s9 s10 s11 s12
  have hs03 := hb00.size
  have hY := Vs.new w3 [.int .u8 yk, .int .u8 (F : Int), .int .i64 yb, .int .i64 yl, .int .i64 ym, .int .i64 yc] #[.int .u8 yk, .int .u8 (F : Int), .int .i64 yb, .int .i64 yl, .int .i64 ym, .int .i64 yc] 60 rfl
  have hbA : Below w3.heap.size w3 (w3.alloc (.cells #[.int .u8 yk, .int .u8 (F : Int), .int .i64 yb, .int .i64 yl, .int .i64 ym, .int .i64 yc] 60)) := by repeat (first | exact Below.refl _ _ | with_reducible assumption | (refine bl_alloc ?_ (Nat.le_refl _) _))
  replace hb00 := bl_call hb00 (Nat.le_refl _) hbA
  replace hs := hs.call hbA
  clear hbA
  generalize w3.alloc (.cells #[.int .u8 yk, .int .u8 (F : Int), .int .i64 yb, .int .i64 yl, .int .i64 ym, .int .i64 yc] 60) = w4 at hb00 hs hY ⊢
  have hs34 : w3.heap.size < w4.heap.size := hY.lt
  obtain ⟨xb, hxb⟩ : ∃ xb, w3.heap.size = xb := ⟨_, rfl⟩
  rw [hxb] at hY hs34 hs03
  simp only [hxb]
  clear hxb
  have h60' : xs.length ≤ 60 := by omega
  have h61' : rs.length ≤ 60 := by omega
  obtain ⟨⟨Y0, Y1, Y2, Y3, Y4, Y5⟩, ⟨Y6, Y7, Y8, Y9, Y10, Y11⟩, Y12⟩ := hY.get6
  refine region_G (n := 7) (m := 9) (f := 7) (by kernel_rfl) (by kernel_rfl) rfl ?_
  refine WpG.takeD 0 (some 27) (v := ?_) rfl rfl (by kernel_rfl) (fun _ _ _ h => h) (.val rfl (fun wz hwz => ?_)) ?_
  rotate_left
  · (obtain ⟨hcz, hfz⟩ := bcell (hwz); go_simp; try (with_reducible rfl))
  (simp only [Act.put]); (try simp only [List.setIfInBounds_toArray]); (try simp only [List.set_cons_succ]); (try simp only [List.set_cons_zero])
  refine WpG.takeD 1 (some 28) (v := ?_) rfl rfl (by kernel_rfl) (fun _ _ _ h => h) (.val rfl (fun wz hwz => ?_)) ?_
  rotate_left
  · go_simp; try (with_reducible rfl)
  (simp only [Act.put]); (try simp only [List.setIfInBounds_toArray]); (try simp only [List.set_cons_succ]); (try simp only [List.set_cons_zero])
  refine WpG.takeD 2 (some 29) (v := ?_) rfl rfl (by kernel_rfl) (fun _ _ _ h => h) (.val rfl (fun wz hwz => ?_)) ?_
  rotate_left
  · go_simp; try (with_reducible rfl)
  (simp only [Act.put]); (try simp only [List.setIfInBounds_toArray]); (try simp only [List.set_cons_succ]); (try simp only [List.set_cons_zero])
  refine WpG.takeD 4 (some 31) (v := ?_) rfl rfl (by kernel_rfl) (fun _ _ _ h => h) (.val rfl (fun wz hwz => ?_)) ?_
  rotate_left
  · (obtain ⟨hcz, hfz⟩ := bcell (hwz); go_simp; try (with_reducible rfl))
  (simp only [Act.put]); (try simp only [List.setIfInBounds_toArray]); (try simp only [List.set_cons_succ]); (try simp only [List.set_cons_zero])
  refine WpG.takeD 5 (some 32) (v := ?_) rfl rfl (by kernel_rfl) (fun _ _ _ h => h) (.val rfl (fun wz hwz => ?_)) ?_
  rotate_left
  · go_simp; try (with_reducible rfl)
  (simp only [Act.put]); (try simp only [List.setIfInBounds_toArray]); (try simp only [List.set_cons_succ]); (try simp only [List.set_cons_zero])
  refine WpG.oneD 3 (some 30) rfl rfl (by kernel_rfl) (fun q : Nat × KL F => Value.slice (some ⟨q.1, 0, none⟩) ni ni) (fun q wz => q.2.length = ni ∧ w4.heap.size ≤ q.1 ∧ BlkE wz q.1 (esK q.2)) (fun _ _ _ h hb => ⟨h.1, h.2.1, h.2.2.call hb⟩) (Fresh.call rfl (fun wz hwz => (HVEC.out wz (bl_call hb00 (Nat.le_refl _) (hwz)) h60').mono fun e w' ⟨q, h1, ⟨h2, h3, h4⟩, h5⟩ => ⟨q, h1, ⟨h2, Nat.le_trans (hwz).size h3, h4⟩, h5⟩) (fun wz hwz => by go_simp; try (with_reducible rfl))) (fun vq w0 hw0 hR0 => ?_)
  (simp only [Act.put]); (try simp only [List.setIfInBounds_toArray]); (try simp only [List.set_cons_succ]); (try simp only [List.set_cons_zero])
  refine WpG.oneD 6 (some 33) rfl rfl (by kernel_rfl) (fun q : Nat × KL F => Value.slice (some ⟨q.1, 0, none⟩) nj nj) (fun q wz => q.2.length = nj ∧ w4.heap.size ≤ q.1 ∧ BlkE wz q.1 (esK q.2)) (fun _ _ _ h hb => ⟨h.1, h.2.1, h.2.2.call hb⟩) (Fresh.call rfl (fun wz hwz => (HJOI.out wz (bl_call hb00 (Nat.le_refl _) (hwz.1)) h61').mono fun e w' ⟨q, h1, ⟨h2, h3, h4⟩, h5⟩ => ⟨q, h1, ⟨h2, Nat.le_trans (hwz.1).size h3, h4⟩, h5⟩) (fun wz hwz => by go_simp; try (with_reducible rfl))) (fun jq w0' hw0' hR0' => ?_)
  (simp only [Act.put]); (try simp only [List.setIfInBounds_toArray]); (try simp only [List.set_cons_succ]); (try simp only [List.set_cons_zero])
  refine WpG.done (by kernel_rfl) (fun w5 hS => ?_)
  (try simp only [List.drop_succ_cons]); (try simp only [List.drop_zero]); (try simp only [Nat.reduceSub]); (try simp only [List.take_succ_cons]); (try simp only [List.take_zero])
  obtain ⟨⟨hb5, hvl, hvg, hV⟩, hjl, hjg, hJ⟩ := hS
  obtain ⟨gv, v⟩ := vq
  obtain ⟨gj, j⟩ := jq
  dsimp only at hvl hvg hV hjl hjg hJ ⊢
  clear Y0 Y1 Y2 Y3 Y4 Y5 Y6 Y7 Y8 Y9 Y10 Y11 Y12
  replace hb00 := bl_call hb00 (Nat.le_refl _) hb5
  replace hY := hY.call hb5
  clear hb5 hR0 hw0 hR0' hw0' hs HVEC HJOI HCIR HAW h60 h61 h60' h61'
  have HVL := Lib.hid hvl
  have HJL := Lib.hid hjl
  clear hvl hjl
  have hvw : gv < w5.heap.size := hV.lt
  have hjw : gj < w5.heap.size := hJ.lt
  go_upto_region 8 with fail
  have hs5 := hb00.size
  have hcb := Vs.new w5 [.int .i64 0] #[.int .i64 0] 3 rfl
  have hbA : Below w5.heap.size w5 (w5.alloc (.cells #[.int .i64 0] 3)) := by repeat (first | exact Below.refl _ _ | with_reducible assumption | (refine bl_alloc ?_ (Nat.le_refl _) _))
  replace hb00 := bl_call hb00 (Nat.le_refl _) hbA
  replace hY := hY.call hbA
  replace hV := hV.call hbA
  replace hJ := hJ.call hbA
  clear hbA
  generalize w5.alloc (.cells #[.int .i64 0] 3) = w6 at hb00 hY hV hJ hcb ⊢
  have hs56 : w5.heap.size < w6.heap.size := hcb.lt
  obtain ⟨cb, hcbe⟩ : ∃ cb, w5.heap.size = cb := ⟨_, rfl⟩
  rw [hcbe] at hcb hs56 hvw hjw hs5
  simp only [hcbe]
  clear hcbe
  have hHR : Hid (∀ wz, BlkE wz gv (esK v) → BlkE wz gj (esK j) → Vs wz cb [.int .i64 0] → Vs wz xb [.int .u8 yk, .int .u8 (F : Int), .int .i64 yb, .int .i64 yl, .int .i64 ym, .int .i64 yc] → Calls Try.prog 73 #[.agg #[.int .u8 yk, .int .u8 (F : Int), .int .i64 yb, .int .i64 yl, .int .i64 ym, .int .i64 yc], .slice (some ⟨gv, 0, none⟩) ni ni, .slice (some ⟨gj, 0, none⟩) nj nj, .int .i64 1, .func (.func 75) #[] #[.pointer (some ⟨cb, 0, none⟩), .pointer (some ⟨xb, 0, none⟩)]] wz fun e w' =>
      e = .returned (.tuple #[vK (dirF y v j), .int .i64 0]) ∧ Vs w' cb [.int .i64 (y.calls : Nat)] ∧ Vs w' xb [.int .u8 yk, .int .u8 (F : Int), .int .i64 yb, .int .i64 yl, .int .i64 ym, .int .i64 yc] ∧ Exc (fun q => q = cb ∨ q = xb) wz.heap.size wz w') :=
    fun wz h1 h2 h3 h4 => HRUN.out gv gj cb xb v j HVL.out HJL.out wz h1 h2 ⟨by omega, by omega⟩ ⟨by omega, by omega⟩ (by omega) h3 h4
  clear HRUN
  obtain ⟨⟨Y0, Y1, Y2, Y3, Y4, Y5⟩, ⟨Y6, Y7, Y8, Y9, Y10, Y11⟩, Y12⟩ := hY.get6
  go_wp2_with fail
  clear Y0 Y1 Y2 Y3 Y4 Y5 Y6 Y7 Y8 Y9 Y10 Y11 Y12
  refine (hHR.out w6 hV hJ hcb hY).mono ?_
  rintro e w7 ⟨rfl, hcb, hY, hE⟩
  replace hV := hV.exc (by show ¬ (_ ∨ _); omega) hE
  replace hJ := hJ.exc (by show ¬ (_ ∨ _); omega) hE
  replace hb00 : Below w.heap.size w w7 := hb00.trans ((hE.mono hb00.size).below fun q hq h => by rcases h with rfl | rfl <;> omega)
  clear hE hHR
  generalize y.calls = nc at *
  obtain ⟨d, hd⟩ : ∃ d, dirF y v j = d := ⟨_, rfl⟩
  simp only [hd]
  have HD := Lib.hid hd
  clear hd
  go_upto_region 9 with fail
  have hg := V2.new w7 (.int .u64 (lo d)) (.int .u64 (hi d)) 41
  have hbA : Below w7.heap.size w7 (w7.alloc (.cells #[.int .u64 (lo d), .int .u64 (hi d)] 41)) := by repeat (first | exact Below.refl _ _ | with_reducible assumption | (refine bl_alloc ?_ (Nat.le_refl _) _))
  replace hb00 := bl_call hb00 (Nat.le_refl _) hbA
  replace hY := hY.call hbA
  replace hV := hV.call hbA
  replace hJ := hJ.call hbA
  replace hcb := hcb.call hbA
  clear hbA
  generalize w7.alloc (.cells #[.int .u64 (lo d), .int .u64 (hi d)] 41) = w8 at hb00 hY hV hJ hcb hg ⊢
  have HV8 := Lib.hid (hV.slM HVL.out (by omega))
  have HJ8 := Lib.hid (hJ.slM HJL.out (by omega))
  have HDD : Hid (∀ wz, Below w8.heap.size w8 wz → Calls Try.prog 76 #[.agg #[.int .i64 yk, .int .i64 (F : Int), .int .i64 yb, .int .i64 yl, .int .i64 ym, .int .i64 yc], .slice (some ⟨gv, 0, none⟩) ni ni, .slice (some ⟨gj, 0, none⟩) nj nj] wz (RetK d wz)) := fun wz hb => by
    have h := HDIR.out wz _ _ v j (HV8.out.later hb) (HJ8.out.later hb) HVL.out HJL.out
    rwa [HD.out] at h
  have hkk : decide (d = d) = true := by simp
  by_cases hok : okVec y v
  · have hd0 : d = 0 := by rw [← HD.out]; exact HZERO.out v j HVL.out hok
    have HVV : Hid (∀ wz, Below w8.heap.size w8 wz → Calls Try.prog 46 #[.agg #[.int .i64 yk, .int .i64 (F : Int), .int .i64 yb, .int .i64 yl, .int .i64 ym, .int .i64 yc], .slice (some ⟨gv, 0, none⟩) ni ni] wz fun e w' => e = .returned (.bool true) ∧ Below wz.heap.size wz w') :=
      fun wz hb => HRVAL.out wz _ v true (HV8.out.later hb) HVL.out (by simp [hok])
    have hl0 : lo d = 0 := by rw [hd0, lo_zero]
    have hh0 : hi d = 0 := by rw [hd0, hi_zero]
    clear hd0 HD HRVAL HDIR HZERO hok hkk
    obtain ⟨⟨Y0, Y1, Y2, Y3, Y4, Y5⟩, ⟨Y6, Y7, Y8, Y9, Y10, Y11⟩, Y12⟩ := hY.get6
    obtain ⟨cb0, cb1, cb2⟩ := hcb.get1
    obtain ⟨g0, g1, g2, g3, g4⟩ := V2.mk hg.c0 hg.c1 hg.f0 hg.f1 hg.lt
    refine region_B (n := 29) (m := 30) (f := 29) (by kernel_rfl) (by kernel_rfl) rfl ?_
    refine WpH.takeD 0 (some 42) (v := ?_) rfl rfl (by kernel_rfl) (fun _ _ _ h => h) (.val rfl (fun wz hwz => ?_)) ?_
    rotate_left
    · go_simp; try (with_reducible rfl)
    (simp only [Act.put]); (try simp only [List.setIfInBounds_toArray]); (try simp only [List.set_cons_succ]); (try simp only [List.set_cons_zero])
    refine WpH.takeD 1 (some 43) (v := ?_) rfl rfl (by kernel_rfl) (fun _ _ _ h => h) (.val rfl (fun wz hwz => ?_)) ?_
    rotate_left
    · go_simp; try (with_reducible rfl)
    (simp only [Act.put]); (try simp only [List.setIfInBounds_toArray]); (try simp only [List.set_cons_succ]); (try simp only [List.set_cons_zero])
    refine WpH.takeD 2 (some 44) (v := ?_) rfl rfl (by kernel_rfl) (fun _ _ _ h => h) (.val rfl (fun wz hwz => ?_)) ?_
    rotate_left
    · go_simp; try (with_reducible rfl)
    (simp only [Act.put]); (try simp only [List.setIfInBounds_toArray]); (try simp only [List.set_cons_succ]); (try simp only [List.set_cons_zero])
    refine WpH.takeD 3 (some 45) (v := ?_) rfl rfl (by kernel_rfl) (fun _ _ _ h => h) (.val rfl (fun wz hwz => ?_)) ?_
    rotate_left
    · (obtain ⟨hcz, hfz⟩ := bcell hwz; go_simp; try (with_reducible rfl))
    (simp only [Act.put]); (try simp only [List.setIfInBounds_toArray]); (try simp only [List.set_cons_succ]); (try simp only [List.set_cons_zero])
    refine WpH.takeD 4 (some 46) (v := ?_) rfl rfl (by kernel_rfl) (fun _ _ _ h => h) (.val rfl (fun wz hwz => ?_)) ?_
    rotate_left
    · (obtain ⟨hcz, hfz⟩ := bcell hwz; go_simp; try (with_reducible rfl))
    (simp only [Act.put]); (try simp only [List.setIfInBounds_toArray]); (try simp only [List.set_cons_succ]); (try simp only [List.set_cons_zero])
    refine WpH.takeD 5 (some 47) rfl rfl (by kernel_rfl) (fun _ _ _ h => h) (.call rfl (fun wz hwz => HCAL.out wz) (fun wz hwz => ?_)) ?_
    · go_simp; try (with_reducible rfl)
    (simp only [Act.put]); (try simp only [List.setIfInBounds_toArray]); (try simp only [List.set_cons_succ]); (try simp only [List.set_cons_zero])
    refine WpH.takeD 6 (some 48) (v := ?_) rfl rfl (by kernel_rfl) (fun _ _ _ h => h) (.val rfl (fun wz hwz => ?_)) ?_
    rotate_left
    · go_simp; try (with_reducible rfl)
    (simp only [Act.put]); (try simp only [List.setIfInBounds_toArray]); (try simp only [List.set_cons_succ]); (try simp only [List.set_cons_zero])
    refine WpH.takeD 7 (some 49) (v := ?_) rfl rfl (by kernel_rfl) (fun _ _ _ h => h) (.val rfl (fun wz hwz => ?_)) ?_
    rotate_left
    · go_simp; try (with_reducible rfl)
    (simp only [Act.put]); (try simp only [List.setIfInBounds_toArray]); (try simp only [List.set_cons_succ]); (try simp only [List.set_cons_zero])
    refine WpH.takeD 8 (some 50) (v := ?_) rfl rfl (by kernel_rfl) (fun _ _ _ h => h) (.val rfl (fun wz hwz => ?_)) ?_
    rotate_left
    · go_simp; try (with_reducible rfl)
    (simp only [Act.put]); (try simp only [List.setIfInBounds_toArray]); (try simp only [List.set_cons_succ]); (try simp only [List.set_cons_zero])
    refine WpH.takeD 9 (some 51) (v := ?_) rfl rfl (by kernel_rfl) (fun _ _ _ h => h) (.val rfl (fun wz hwz => ?_)) ?_
    rotate_left
    · (obtain ⟨hcz, hfz⟩ := bcell hwz; go_simp; try (with_reducible rfl))
    (simp only [Act.put]); (try simp only [List.setIfInBounds_toArray]); (try simp only [List.set_cons_succ]); (try simp only [List.set_cons_zero])
    refine WpH.takeD 10 (some 52) (v := ?_) rfl rfl (by kernel_rfl) (fun _ _ _ h => h) (.val rfl (fun wz hwz => ?_)) ?_
    rotate_left
    · (obtain ⟨hcz, hfz⟩ := bcell hwz; go_simp; try (with_reducible rfl))
    (simp only [Act.put]); (try simp only [List.setIfInBounds_toArray]); (try simp only [List.set_cons_succ]); (try simp only [List.set_cons_zero])
    refine WpH.takeD 11 (some 53) rfl rfl (by kernel_rfl) (fun _ _ _ h => h) (.call rfl (fun wz hwz => HREF.out wz) (fun wz hwz => ?_)) ?_
    · go_simp; try (with_reducible rfl)
    (simp only [Act.put]); (try simp only [List.setIfInBounds_toArray]); (try simp only [List.set_cons_succ]); (try simp only [List.set_cons_zero])
    refine WpH.takeD 12 (some 54) (v := ?_) rfl rfl (by kernel_rfl) (fun _ _ _ h => h) (.val rfl (fun wz hwz => ?_)) ?_
    rotate_left
    · go_simp; try (with_reducible rfl)
    (simp only [Act.put]); (try simp only [List.setIfInBounds_toArray]); (try simp only [List.set_cons_succ]); (try simp only [List.set_cons_zero])
    refine WpH.takeD 13 (some 55) (v := ?_) rfl rfl (by kernel_rfl) (fun _ _ _ h => h) (.val rfl (fun wz hwz => ?_)) ?_
    rotate_left
    · go_simp; try (with_reducible rfl)
    (simp only [Act.put]); (try simp only [List.setIfInBounds_toArray]); (try simp only [List.set_cons_succ]); (try simp only [List.set_cons_zero])
    refine WpH.takeD 14 (some 56) rfl rfl (by kernel_rfl) (fun _ _ _ h => h) (.call rfl (fun wz hwz => HDD.out wz hwz) (fun wz hwz => ?_)) ?_
    · go_simp; try (with_reducible rfl)
    (simp only [Act.put]); (try simp only [List.setIfInBounds_toArray]); (try simp only [List.set_cons_succ]); (try simp only [List.set_cons_zero])
    refine WpH.takeD 15 (some 57) (v := ?_) rfl rfl (by kernel_rfl) (fun _ _ _ h => h) (.val rfl (fun wz hwz => ?_)) ?_
    rotate_left
    · go_simp; try (with_reducible rfl)
    (simp only [Act.put]); (try simp only [List.setIfInBounds_toArray]); (try simp only [List.set_cons_succ]); (try simp only [List.set_cons_zero])
    refine WpH.takeD 16 (some 58) (v := ?_) rfl rfl (by kernel_rfl) (fun _ _ _ h => h) (.val rfl (fun wz hwz => ?_)) ?_
    rotate_left
    · go_simp; try (with_reducible rfl)
    (simp only [Act.put]); (try simp only [List.setIfInBounds_toArray]); (try simp only [List.set_cons_succ]); (try simp only [List.set_cons_zero])
    refine WpH.takeD 17 (some 59) (v := ?_) rfl rfl (by kernel_rfl) (fun _ _ _ h => h) (.val rfl (fun wz hwz => ?_)) ?_
    rotate_left
    · go_simp; try (with_reducible rfl)
    (simp only [Act.put]); (try simp only [List.setIfInBounds_toArray]); (try simp only [List.set_cons_succ]); (try simp only [List.set_cons_zero])
    refine WpH.takeD 18 (some 60) (v := ?_) rfl rfl (by kernel_rfl) (fun _ _ _ h => h) (.val rfl (fun wz hwz => ?_)) ?_
    rotate_left
    · (obtain ⟨hcz, hfz⟩ := bcell hwz; go_simp; try (with_reducible rfl))
    (simp only [Act.put]); (try simp only [List.setIfInBounds_toArray]); (try simp only [List.set_cons_succ]); (try simp only [List.set_cons_zero])
    refine WpH.takeD 19 (some 61) rfl rfl (by kernel_rfl) (fun _ _ _ h => h) (.call rfl (fun wz hwz => HREF.out wz) (fun wz hwz => ?_)) ?_
    · go_simp; try (with_reducible rfl)
    (simp only [Act.put]); (try simp only [List.setIfInBounds_toArray]); (try simp only [List.set_cons_succ]); (try simp only [List.set_cons_zero])
    refine WpH.takeD 20 (some 62) (v := ?_) rfl rfl (by kernel_rfl) (fun _ _ _ h => h) (.val rfl (fun wz hwz => ?_)) ?_
    rotate_left
    · go_simp; try (with_reducible rfl)
    (simp only [Act.put]); (try simp only [List.setIfInBounds_toArray]); (try simp only [List.set_cons_succ]); (try simp only [List.set_cons_zero])
    refine WpH.takeD 21 (some 63) rfl rfl (by kernel_rfl) (fun _ _ _ h => h) (.call rfl (fun wz hwz => HVV.out wz hwz) (fun wz hwz => ?_)) ?_
    · go_simp; try (with_reducible rfl)
    (simp only [Act.put]); (try simp only [List.setIfInBounds_toArray]); (try simp only [List.set_cons_succ]); (try simp only [List.set_cons_zero])
    refine WpH.takeD 22 (some 64) (v := ?_) rfl rfl (by kernel_rfl) (fun _ _ _ h => h) (.val rfl (fun wz hwz => ?_)) ?_
    rotate_left
    · go_simp; try (with_reducible rfl)
    (simp only [Act.put]); (try simp only [List.setIfInBounds_toArray]); (try simp only [List.set_cons_succ]); (try simp only [List.set_cons_zero])
    refine WpH.takeD 23 (some 65) (v := ?_) rfl rfl (by kernel_rfl) (fun _ _ _ h => h) (.val rfl (fun wz hwz => ?_)) ?_
    rotate_left
    · go_simp; try (with_reducible rfl)
    (simp only [Act.put]); (try simp only [List.setIfInBounds_toArray]); (try simp only [List.set_cons_succ]); (try simp only [List.set_cons_zero])
    refine WpH.takeD 24 (some 66) (v := ?_) rfl rfl (by kernel_rfl) (fun _ _ _ h => h) (.val rfl (fun wz hwz => ?_)) ?_
    rotate_left
    · (obtain ⟨hcz, hfz⟩ := bcell hwz; go_simp; try (with_reducible rfl))
    (simp only [Act.put]); (try simp only [List.setIfInBounds_toArray]); (try simp only [List.set_cons_succ]); (try simp only [List.set_cons_zero])
    refine WpH.takeD 25 (some 67) (v := ?_) rfl rfl (by kernel_rfl) (fun _ _ _ h => h) (.val rfl (fun wz hwz => ?_)) ?_
    rotate_left
    · go_simp; try (with_reducible rfl)
    (simp only [Act.put]); (try simp only [List.setIfInBounds_toArray]); (try simp only [List.set_cons_succ]); (try simp only [List.set_cons_zero])
    refine WpH.takeD 26 (some 68) (v := ?_) rfl rfl (by kernel_rfl) (fun _ _ _ h => h) (.val rfl (fun wz hwz => ?_)) ?_
    rotate_left
    · go_simp; try (with_reducible rfl)
    (simp only [Act.put]); (try simp only [List.setIfInBounds_toArray]); (try simp only [List.set_cons_succ]); (try simp only [List.set_cons_zero])
    refine WpH.takeD 27 (some 69) (v := ?_) rfl rfl (by kernel_rfl) (fun _ _ _ h => h) (.val rfl (fun wz hwz => ?_)) ?_
    rotate_left
    · go_simp; try (with_reducible rfl)
    (simp only [Act.put]); (try simp only [List.setIfInBounds_toArray]); (try simp only [List.set_cons_succ]); (try simp only [List.set_cons_zero])
    refine WpH.takeD 28 (some 70) (v := ?_) rfl rfl (by kernel_rfl) (fun _ _ _ h => h) (.val rfl (fun wz hwz => ?_)) ?_
    rotate_left
    · go_simp; try (with_reducible rfl)
    (simp only [Act.put]); (try simp only [List.setIfInBounds_toArray]); (try simp only [List.set_cons_succ]); (try simp only [List.set_cons_zero])
    refine WpH.doneB (by kernel_rfl) (fun w9 hw9 => ?_)
    (try simp only [List.drop_succ_cons]); (try simp only [List.drop_zero]); (try simp only [Nat.reduceSub]); (try simp only [List.take_succ_cons]); (try simp only [List.take_zero])
    replace hb00 := bl_call hb00 (Nat.le_refl _) hw9
    replace hY := hY.call hw9
    replace hV := hV.call hw9
    replace hJ := hJ.call hw9
    replace hcb := hcb.call hw9
    replace hg := hg.call hw9
    go_wp2_with fail
    go_ret
    exact ⟨rfl, hb00⟩
  · have HVV : Hid (∀ wz, Below w8.heap.size w8 wz → Calls Try.prog 46 #[.agg #[.int .i64 yk, .int .i64 (F : Int), .int .i64 yb, .int .i64 yl, .int .i64 ym, .int .i64 yc], .slice (some ⟨gv, 0, none⟩) ni ni] wz fun e w' => e = .returned (.bool false) ∧ Below wz.heap.size wz w') :=
      fun wz hb => HRVAL.out wz _ v false (HV8.out.later hb) HVL.out (by simp [hok])
    clear HD HRVAL HDIR HZERO hok hkk
    obtain ⟨⟨Y0, Y1, Y2, Y3, Y4, Y5⟩, ⟨Y6, Y7, Y8, Y9, Y10, Y11⟩, Y12⟩ := hY.get6
    obtain ⟨cb0, cb1, cb2⟩ := hcb.get1
    obtain ⟨g0, g1, g2, g3, g4⟩ := V2.mk hg.c0 hg.c1 hg.f0 hg.f1 hg.lt
    refine region_B (n := 29) (m := 30) (f := 29) (by kernel_rfl) (by kernel_rfl) rfl ?_
    refine WpH.takeD 0 (some 42) (v := ?_) rfl rfl (by kernel_rfl) (fun _ _ _ h => h) (.val rfl (fun wz hwz => ?_)) ?_
    rotate_left
    · go_simp; try (with_reducible rfl)
    (simp only [Act.put]); (try simp only [List.setIfInBounds_toArray]); (try simp only [List.set_cons_succ]); (try simp only [List.set_cons_zero])
    refine WpH.takeD 1 (some 43) (v := ?_) rfl rfl (by kernel_rfl) (fun _ _ _ h => h) (.val rfl (fun wz hwz => ?_)) ?_
    rotate_left
    · go_simp; try (with_reducible rfl)
    (simp only [Act.put]); (try simp only [List.setIfInBounds_toArray]); (try simp only [List.set_cons_succ]); (try simp only [List.set_cons_zero])
    refine WpH.takeD 2 (some 44) (v := ?_) rfl rfl (by kernel_rfl) (fun _ _ _ h => h) (.val rfl (fun wz hwz => ?_)) ?_
    rotate_left
    · go_simp; try (with_reducible rfl)
    (simp only [Act.put]); (try simp only [List.setIfInBounds_toArray]); (try simp only [List.set_cons_succ]); (try simp only [List.set_cons_zero])
    refine WpH.takeD 3 (some 45) (v := ?_) rfl rfl (by kernel_rfl) (fun _ _ _ h => h) (.val rfl (fun wz hwz => ?_)) ?_
    rotate_left
    · (obtain ⟨hcz, hfz⟩ := bcell hwz; go_simp; try (with_reducible rfl))
    (simp only [Act.put]); (try simp only [List.setIfInBounds_toArray]); (try simp only [List.set_cons_succ]); (try simp only [List.set_cons_zero])
    refine WpH.takeD 4 (some 46) (v := ?_) rfl rfl (by kernel_rfl) (fun _ _ _ h => h) (.val rfl (fun wz hwz => ?_)) ?_
    rotate_left
    · (obtain ⟨hcz, hfz⟩ := bcell hwz; go_simp; try (with_reducible rfl))
    (simp only [Act.put]); (try simp only [List.setIfInBounds_toArray]); (try simp only [List.set_cons_succ]); (try simp only [List.set_cons_zero])
    refine WpH.takeD 5 (some 47) rfl rfl (by kernel_rfl) (fun _ _ _ h => h) (.call rfl (fun wz hwz => HCAL.out wz) (fun wz hwz => ?_)) ?_
    · go_simp; try (with_reducible rfl)
    (simp only [Act.put]); (try simp only [List.setIfInBounds_toArray]); (try simp only [List.set_cons_succ]); (try simp only [List.set_cons_zero])
    refine WpH.takeD 6 (some 48) (v := ?_) rfl rfl (by kernel_rfl) (fun _ _ _ h => h) (.val rfl (fun wz hwz => ?_)) ?_
    rotate_left
    · go_simp; try (with_reducible rfl)
    (simp only [Act.put]); (try simp only [List.setIfInBounds_toArray]); (try simp only [List.set_cons_succ]); (try simp only [List.set_cons_zero])
    refine WpH.takeD 7 (some 49) (v := ?_) rfl rfl (by kernel_rfl) (fun _ _ _ h => h) (.val rfl (fun wz hwz => ?_)) ?_
    rotate_left
    · go_simp; try (with_reducible rfl)
    (simp only [Act.put]); (try simp only [List.setIfInBounds_toArray]); (try simp only [List.set_cons_succ]); (try simp only [List.set_cons_zero])
    refine WpH.takeD 8 (some 50) (v := ?_) rfl rfl (by kernel_rfl) (fun _ _ _ h => h) (.val rfl (fun wz hwz => ?_)) ?_
    rotate_left
    · go_simp; try (with_reducible rfl)
    (simp only [Act.put]); (try simp only [List.setIfInBounds_toArray]); (try simp only [List.set_cons_succ]); (try simp only [List.set_cons_zero])
    refine WpH.takeD 9 (some 51) (v := ?_) rfl rfl (by kernel_rfl) (fun _ _ _ h => h) (.val rfl (fun wz hwz => ?_)) ?_
    rotate_left
    · (obtain ⟨hcz, hfz⟩ := bcell hwz; go_simp; try (with_reducible rfl))
    (simp only [Act.put]); (try simp only [List.setIfInBounds_toArray]); (try simp only [List.set_cons_succ]); (try simp only [List.set_cons_zero])
    refine WpH.takeD 10 (some 52) (v := ?_) rfl rfl (by kernel_rfl) (fun _ _ _ h => h) (.val rfl (fun wz hwz => ?_)) ?_
    rotate_left
    · (obtain ⟨hcz, hfz⟩ := bcell hwz; go_simp; try (with_reducible rfl))
    (simp only [Act.put]); (try simp only [List.setIfInBounds_toArray]); (try simp only [List.set_cons_succ]); (try simp only [List.set_cons_zero])
    refine WpH.takeD 11 (some 53) rfl rfl (by kernel_rfl) (fun _ _ _ h => h) (.call rfl (fun wz hwz => HREF.out wz) (fun wz hwz => ?_)) ?_
    · go_simp; try (with_reducible rfl)
    (simp only [Act.put]); (try simp only [List.setIfInBounds_toArray]); (try simp only [List.set_cons_succ]); (try simp only [List.set_cons_zero])
    refine WpH.takeD 12 (some 54) (v := ?_) rfl rfl (by kernel_rfl) (fun _ _ _ h => h) (.val rfl (fun wz hwz => ?_)) ?_
    rotate_left
    · go_simp; try (with_reducible rfl)
    (simp only [Act.put]); (try simp only [List.setIfInBounds_toArray]); (try simp only [List.set_cons_succ]); (try simp only [List.set_cons_zero])
    refine WpH.takeD 13 (some 55) (v := ?_) rfl rfl (by kernel_rfl) (fun _ _ _ h => h) (.val rfl (fun wz hwz => ?_)) ?_
    rotate_left
    · go_simp; try (with_reducible rfl)
    (simp only [Act.put]); (try simp only [List.setIfInBounds_toArray]); (try simp only [List.set_cons_succ]); (try simp only [List.set_cons_zero])
    refine WpH.takeD 14 (some 56) rfl rfl (by kernel_rfl) (fun _ _ _ h => h) (.call rfl (fun wz hwz => HDD.out wz hwz) (fun wz hwz => ?_)) ?_
    · go_simp; try (with_reducible rfl)
    (simp only [Act.put]); (try simp only [List.setIfInBounds_toArray]); (try simp only [List.set_cons_succ]); (try simp only [List.set_cons_zero])
    refine WpH.takeD 15 (some 57) (v := ?_) rfl rfl (by kernel_rfl) (fun _ _ _ h => h) (.val rfl (fun wz hwz => ?_)) ?_
    rotate_left
    · go_simp; try (with_reducible rfl)
    (simp only [Act.put]); (try simp only [List.setIfInBounds_toArray]); (try simp only [List.set_cons_succ]); (try simp only [List.set_cons_zero])
    refine WpH.takeD 16 (some 58) (v := ?_) rfl rfl (by kernel_rfl) (fun _ _ _ h => h) (.val rfl (fun wz hwz => ?_)) ?_
    rotate_left
    · go_simp; try (with_reducible rfl)
    (simp only [Act.put]); (try simp only [List.setIfInBounds_toArray]); (try simp only [List.set_cons_succ]); (try simp only [List.set_cons_zero])
    refine WpH.takeD 17 (some 59) (v := ?_) rfl rfl (by kernel_rfl) (fun _ _ _ h => h) (.val rfl (fun wz hwz => ?_)) ?_
    rotate_left
    · go_simp; try (with_reducible rfl)
    (simp only [Act.put]); (try simp only [List.setIfInBounds_toArray]); (try simp only [List.set_cons_succ]); (try simp only [List.set_cons_zero])
    refine WpH.takeD 18 (some 60) (v := ?_) rfl rfl (by kernel_rfl) (fun _ _ _ h => h) (.val rfl (fun wz hwz => ?_)) ?_
    rotate_left
    · (obtain ⟨hcz, hfz⟩ := bcell hwz; go_simp; try (with_reducible rfl))
    (simp only [Act.put]); (try simp only [List.setIfInBounds_toArray]); (try simp only [List.set_cons_succ]); (try simp only [List.set_cons_zero])
    refine WpH.takeD 19 (some 61) rfl rfl (by kernel_rfl) (fun _ _ _ h => h) (.call rfl (fun wz hwz => HREF.out wz) (fun wz hwz => ?_)) ?_
    · go_simp; try (with_reducible rfl)
    (simp only [Act.put]); (try simp only [List.setIfInBounds_toArray]); (try simp only [List.set_cons_succ]); (try simp only [List.set_cons_zero])
    refine WpH.takeD 20 (some 62) (v := ?_) rfl rfl (by kernel_rfl) (fun _ _ _ h => h) (.val rfl (fun wz hwz => ?_)) ?_
    rotate_left
    · go_simp; try (with_reducible rfl)
    (simp only [Act.put]); (try simp only [List.setIfInBounds_toArray]); (try simp only [List.set_cons_succ]); (try simp only [List.set_cons_zero])
    refine WpH.takeD 21 (some 63) rfl rfl (by kernel_rfl) (fun _ _ _ h => h) (.call rfl (fun wz hwz => HVV.out wz hwz) (fun wz hwz => ?_)) ?_
    · go_simp; try (with_reducible rfl)
    (simp only [Act.put]); (try simp only [List.setIfInBounds_toArray]); (try simp only [List.set_cons_succ]); (try simp only [List.set_cons_zero])
    refine WpH.takeD 22 (some 64) (v := ?_) rfl rfl (by kernel_rfl) (fun _ _ _ h => h) (.val rfl (fun wz hwz => ?_)) ?_
    rotate_left
    · go_simp; try (with_reducible rfl)
    (simp only [Act.put]); (try simp only [List.setIfInBounds_toArray]); (try simp only [List.set_cons_succ]); (try simp only [List.set_cons_zero])
    refine WpH.takeD 23 (some 65) (v := ?_) rfl rfl (by kernel_rfl) (fun _ _ _ h => h) (.val rfl (fun wz hwz => ?_)) ?_
    rotate_left
    · go_simp; try (with_reducible rfl)
    (simp only [Act.put]); (try simp only [List.setIfInBounds_toArray]); (try simp only [List.set_cons_succ]); (try simp only [List.set_cons_zero])
    refine WpH.takeD 24 (some 66) rfl rfl (by kernel_rfl) (fun _ _ _ h => h) (.skip rfl) ?_
    (simp only [Act.put]); (try simp only [List.setIfInBounds_toArray]); (try simp only [List.set_cons_succ]); (try simp only [List.set_cons_zero])
    refine WpH.takeD 25 (some 67) rfl rfl (by kernel_rfl) (fun _ _ _ h => h) (.skip rfl) ?_
    (simp only [Act.put]); (try simp only [List.setIfInBounds_toArray]); (try simp only [List.set_cons_succ]); (try simp only [List.set_cons_zero])
    refine WpH.takeD 26 (some 68) rfl rfl (by kernel_rfl) (fun _ _ _ h => h) (.skip rfl) ?_
    (simp only [Act.put]); (try simp only [List.setIfInBounds_toArray]); (try simp only [List.set_cons_succ]); (try simp only [List.set_cons_zero])
    refine WpH.takeD 27 (some 69) (v := ?_) rfl rfl (by kernel_rfl) (fun _ _ _ h => h) (.val rfl (fun wz hwz => ?_)) ?_
    rotate_left
    · go_simp; try (with_reducible rfl)
    (simp only [Act.put]); (try simp only [List.setIfInBounds_toArray]); (try simp only [List.set_cons_succ]); (try simp only [List.set_cons_zero])
    refine WpH.takeD 28 (some 70) (v := ?_) rfl rfl (by kernel_rfl) (fun _ _ _ h => h) (.val rfl (fun wz hwz => ?_)) ?_
    rotate_left
    · go_simp; try (with_reducible rfl)
    (simp only [Act.put]); (try simp only [List.setIfInBounds_toArray]); (try simp only [List.set_cons_succ]); (try simp only [List.set_cons_zero])
    refine WpH.doneB (by kernel_rfl) (fun w9 hw9 => ?_)
    (try simp only [List.drop_succ_cons]); (try simp only [List.drop_zero]); (try simp only [Nat.reduceSub]); (try simp only [List.take_succ_cons]); (try simp only [List.take_zero])
    replace hb00 := bl_call hb00 (Nat.le_refl _) hw9
    replace hY := hY.call hw9
    replace hV := hV.call hw9
    replace hJ := hJ.call hw9
    replace hcb := hcb.call hw9
    replace hg := hg.call hw9
    go_wp2_with fail
    go_ret
    exact ⟨rfl, hb00⟩

end Go.Proofs.Ytiphahbeedeebaa
