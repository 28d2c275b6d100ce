/-
  WALK: tallymanlaw31.TapeSwaps.
-/
import Derived.Test.YtiphahbeedeebaaMax
import Derived.Test.YtiphahbeedeebaaMau
import Derived.Test.YtiphahbeedeebaaMae
import Derived.Test.YtiphahbeedeebaaMak
import Derived.Test.YtiphahbeedeebaaMaq
import Derived.Test.YtiphahbeedeebaaMao
namespace Go.Proofs.Ytiphahbeedeebaa
open Go.RowKit Fm
set_option linter.unusedVariables false
set_option maxRecDepth 100000

theorem list_eK {f : Nat} : ∀ (l : List E), (∀ e, e ∈ l → ∃ x : Fin (Pm f), eK x = e) → ∃ zs : KL f, esK zs = l
  | [], _ => ⟨[], rfl⟩
  | e :: l, h => by
    obtain ⟨x, hx⟩ := h e (List.mem_cons_self ..)
    obtain ⟨zs, hz⟩ := list_eK l fun e he => h e (List.mem_cons_of_mem _ he)
    exact ⟨x :: zs, by rw [esK_cons, hx, hz]⟩
theorem red_eK {f : Nat} {e : E} (h : RedE ((Pm f : Nat) : Int) e) : ∃ x : Fin (Pm f), eK x = e := by
  obtain ⟨n, h0, h1, rfl⟩ := h
  exact ⟨kI (Pm f) n, by rw [eK_kI, Int.emod_eq_of_lt h0 h1]⟩
theorem law31_someK {f : Nat} (hf : IsF f) (vl : Value) (l : List E) (many step : Nat) (w : World) (hl : SlE w w.heap.size vl l) (hmany : many ≤ 65536) (hstep : step ≤ 16) :
    Calls Try.prog 20 #[.int .i64 f, vl, .int .i64 many, .int .i64 step] w (RetV f many w) := by
  obtain ⟨p0, p1, hr⟩ := (FM.ofN hf).ref
  refine (law31_some f _ p0 p1 (FM.ofN hf) hr vl l many step w hl hmany hstep).mono fun e w' ⟨g, he, hB, hg, hb⟩ => ?_
  obtain ⟨zs, hz⟩ := list_eK (f := f) (someE (f : Int) ((Pm f : Nat) : Int) l many step) fun e he => red_eK (someE_red (FM.ofN hf) l many step e he)
  rw [← hz] at hB
  rw [someE_length] at he
  exact ⟨g, zs, by rw [← esK_length, hz, someE_length], he, hB, hg, hb⟩

theorem BlkE.slN {f n : Nat} {w : World} {g : Nat} {zs : KL f} (h : BlkE w g (esK zs)) (hz : zs.length = n) (hn : n ≤ 1000000) : SlK w w.heap.size (.slice (some ⟨g, 0, none⟩) n n) zs := by
  have h1 := h.slK (by omega) h.lt
  rwa [hz] at h1

section
variable {f : Nat}
theorem zip_eq {op1 op2 : Fin (Pm f) → Fin (Pm f) → Fin (Pm f)} : True := trivial
theorem swap_sum : ∀ (x y z : KL f), x.length = z.length → y.length = z.length → addL (addL x z) (subL y z) = addL x y
  | [], [], _, _, _ => rfl
  | [], _ :: _, [], _, h => by simp at h
  | [], _ :: _, _ :: _, h, _ => by simp at h
  | _ :: _, _, [], h, _ => by simp at h
  | _ :: _, [], _ :: _, _, h => by simp at h
  | a :: x, b :: y, c :: z, h1, h2 => by
    have ih := swap_sum x y z (by simpa using h1) (by simpa using h2)
    unfold addL subL at ih ⊢
    simp only [List.zipWith_cons_cons]
    rw [ih]
    congr 1
    grind
theorem subL_back : ∀ (a b : KL f), a.length = b.length → subL a (subL a b) = b
  | [], [], _ => rfl
  | [], _ :: _, h => by simp at h
  | _ :: _, [], h => by simp at h
  | x :: a, y :: b, h => by
    have ih := subL_back a b (by simpa using h)
    unfold subL at ih ⊢
    simp only [List.zipWith_cons_cons]
    rw [ih]
    congr 1
    grind
theorem swap_second : ∀ (x y z p q : KL f), x.length = z.length → y.length = z.length → p.length = z.length → q.length = z.length →
    addL (subL (addL x z) (subL x p)) (subL (subL y z) (subL y q)) = addL p q
  | [], [], [], [], [], _, _, _, _ => rfl
  | a :: x, b :: y, c :: z, d :: p, e :: q, h1, h2, h3, h4 => by
    have ih := swap_second x y z p q (by simpa using h1) (by simpa using h2) (by simpa using h3) (by simpa using h4)
    unfold addL subL at ih ⊢
    simp only [List.zipWith_cons_cons]
    rw [ih]
    congr 1
    grind
  | _ :: _, _, [], _, _, h, _, _, _ => by simp at h
  | [], _, _ :: _, _, _, h, _, _, _ => by simp at h
  | _, _ :: _, [], _, _, _, h, _, _ => by simp at h
  | _, [], _ :: _, _, _, _, h, _, _ => by simp at h
  | _, _, [], _ :: _, _, _, _, h, _ => by simp at h
  | _, _, _ :: _, [], _, _, _, h, _ => by simp at h
  | _, _, [], _, _ :: _, _, _, _, h => by simp at h
  | _, _, _ :: _, _, [], _, _, _, h => by simp at h
theorem swap_other (x y z : KL f) (a : Fin (Pm f)) (h1 : x.length = z.length) (h2 : y.length = z.length) (h0 : (subL y z)[0]? = some a) :
    addL x y ≠ addL (addL x z) ((subL y z).set 0 (a + 1)) := by
  cases x with
  | nil =>
    obtain rfl : z = [] := List.eq_nil_of_length_eq_zero h1.symm
    obtain rfl : y = [] := List.eq_nil_of_length_eq_zero h2
    simp [subL] at h0
  | cons b x =>
    cases z with
    | nil => simp at h1
    | cons c z =>
      cases y with
      | nil => simp at h2
      | cons d y =>
        intro h
        unfold addL subL at h
        simp only [List.zipWith_cons_cons, List.set_cons_zero] at h
        injection h with h3 _
        have h4 : a = d - c := by
          unfold subL at h0
          simp only [List.zipWith_cons_cons, List.getElem?_cons_zero] at h0
          exact (Option.some.inj h0).symm
        rw [h4] at h3
        have h5 : (1 : Fin (Pm f)) = 0 := by grind
        exact k_one_ne h5
end

theorem SlK.shape {f : Nat} {w : World} {B : Nat} {v : Value} {l : KL f} (h : SlK w B v l) : ∃ (A : Option Addr) (n c : Nat), v = .slice A n c := by
  obtain ⟨A, c, hv, _⟩ := h
  exact ⟨_, _, _, hv⟩

set_option maxHeartbeats 8000000 in
theorem walk_TapeSwaps (k f b l m c : Int) (va vb vs vk vd : Value) (la lb ls lk ld : List E) (other : Bool) (w : World) (hk : 0 ≤ k ∧ k ≤ 255) (hf : 0 ≤ f ∧ f ≤ 255) (hb : 0 ≤ b ∧ b ≤ 255) (hl : 0 ≤ l ∧ l ≤ 255) (hm : 0 ≤ m ∧ m ≤ 255) (hc : 0 ≤ c ∧ c ≤ 255)
    (hva : SlE w w.heap.size va la) (hvb : SlE w w.heap.size vb lb) (hvs : SlE w w.heap.size vs ls) (hvk : SlE w w.heap.size vk lk) (hvd : SlE w w.heap.size vd ld) :
    Calls Try.prog 11 #[.agg #[.int .u8 k, .int .u8 f, .int .u8 b, .int .u8 l, .int .u8 m, .int .u8 c], va, vb, vs, vk, vd, .bool other] w fun e w' => e = .returned (.bool true) ∧ Below w.heap.size w w' := by
  obtain ⟨F, y, hF, hy, hCIR⟩ := law10_Circuit k f b l m c hk.1 hk.2 hf.1 hf.2 hb.1 hb.2 hl.1 hl.2 hm.1 hm.2 hc.1 hc.2
  have HCIR := Lib.hid hCIR
  have HAW := Lib.hid law31_Awake
  have HIN := Lib.hid (fun wz => circuit_In F y hy.ok wz)
  have hn12 := hy.nin
  have hn1 := CK.nin_pos hy.ok
  have hFb0 : (1 : Int) ≤ (F : Int) := by rcases hF.or with rfl | rfl <;> omega
  have hFb1 : (F : Int) ≤ 2 := by rcases hF.or with rfl | rfl <;> omega
  have HSW := Lib.hid (fun va vb vc vd ve vf (a b oa ob p q : KL F) wz (ha : SlK wz wz.heap.size va a) (hb : SlK wz wz.heap.size vb b) (hoa : SlK wz wz.heap.size vc oa) (hob : SlK wz wz.heap.size vd ob) (hp : SlK wz wz.heap.size ve p) (hq : SlK wz wz.heap.size vf q) (h1 : a.length = y.nin) (h2 : b.length = y.nin) (h3 : oa.length = y.nin) (h4 : ob.length = y.nin) (h5 : p.length = y.nin) (h6 : q.length = y.nin) =>
    tape_Swap hF y hy.ok hy.calls va vb vc vd ve vf a b oa ob p q y.nin wz ha hb hoa hob hp hq h1 h2 h3 h4 h5 h6 (by omega))
  have HADD := Lib.hid (fun va vb (a b : KL F) wz (ha : SlK wz wz.heap.size va a) (hb : SlK wz wz.heap.size vb b) (h1 : a.length = y.nin) (h2 : b.length = y.nin) => field_AddVecK hF va vb a b wz ha hb (by omega) (by omega))
  have HSUB := Lib.hid (fun va vb (a b : KL F) wz (ha : SlK wz wz.heap.size va a) (hb : SlK wz wz.heap.size vb b) (h1 : a.length = y.nin) (h2 : b.length = y.nin) => field_SubVecK hF va vb a b wz ha hb (by omega) (by omega))
  have HSPL := Lib.hid (fun va vb (a b : KL F) wz (ha : SlK wz wz.heap.size va a) (hb : SlK wz wz.heap.size vb b) (h1 : a.length = y.nin) (h2 : b.length = y.nin) => tape_SplitK hF va vb a b wz ha hb (by omega) (by omega))
  have HSM1 : Hid (∀ (v : Value) (l : List E) wz, SlE wz wz.heap.size v l → Calls Try.prog 20 #[.int .i64 F, v, .int .i64 y.nin, .int .i64 1] wz (RetV F y.nin wz)) := fun v l wz h => law31_someK hF v l y.nin 1 wz h (by omega) (by omega)
  have HSM2 : Hid (∀ (v : Value) (l : List E) wz, SlE wz wz.heap.size v l → Calls Try.prog 20 #[.int .i64 F, v, .int .i64 y.nin, .int .i64 2] wz (RetV F y.nin wz)) := fun v l wz h => law31_someK hF v l y.nin 2 wz h (by omega) (by omega)
  have HSM3 : Hid (∀ (v : Value) (l : List E) wz, SlE wz wz.heap.size v l → Calls Try.prog 20 #[.int .i64 F, v, .int .i64 y.nin, .int .i64 3] wz (RetV F y.nin wz)) := fun v l wz h => law31_someK hF v l y.nin 3 wz h (by omega) (by omega)
  have H0 := Lib.hid hva
  have H1 := Lib.hid hvb
  have H2 := Lib.hid hvs
  have H3 := Lib.hid hvk
  have H4 := Lib.hid hvd
  unfold CK.val at HCIR HIN HSW
  clear hCIR
  obtain ⟨⟨A1, c1, rfl, _⟩, _⟩ := hva
  obtain ⟨⟨A2, c2, rfl, _⟩, _⟩ := hvb
  obtain ⟨⟨A3, c3, rfl, _⟩, _⟩ := hvs
  obtain ⟨⟨A4, c4, rfl, _⟩, _⟩ := hvk
  obtain ⟨⟨A5, c5, rfl, _⟩, _⟩ := hvd
  have HF := Lib.hid hF
  generalize ((y.k : Nat) : Int) = yk at *
  generalize ((y.b : Nat) : Int) = yb at *
  generalize ((y.l : Nat) : Int) = yl at *
  generalize ((y.m : Nat) : Int) = ym at *
  generalize ((y.c : Nat) : Int) = yc at *
  generalize y.nin = n at *
  clear hy hF
  have hwF : IntKind.i64.wrap (F : Int) = (F : Int) := IntWalk.i64_in _ (by omega)
  have hb00 : Below w.heap.size w w := Below.refl _ _
  go_enter Try.func11, Try.ntmps11
  go_upto_region 1 with fail
  have hs := Vs.new w [.int .u8 k, .int .u8 f, .int .u8 b, .int .u8 l, .int .u8 m, .int .u8 c] #[.int .u8 k, .int .u8 f, .int .u8 b, .int .u8 l, .int .u8 m, .int .u8 c] 62 rfl
  have hbA : Below w.heap.size w (w.alloc (.cells #[.int .u8 k, .int .u8 f, .int .u8 b, .int .u8 l, .int .u8 m, .int .u8 c] 62)) := by repeat (first | exact Below.refl _ _ | with_reducible assumption | (refine bl_alloc ?_ (Nat.le_refl _) _))
  replace hb00 := bl_call hb00 (Nat.le_refl _) hbA
  clear hbA
  generalize w.alloc (.cells #[.int .u8 k, .int .u8 f, .int .u8 b, .int .u8 l, .int .u8 m, .int .u8 c] 62) = w1 at hb00 hs ⊢
  by_cases q1 : 30 < la.length
  · skip
    go_wp2_with (first
      | (go_at_call 18; refine (HAW.out _).mono ?_; rintro e w2 ⟨rfl, hb2⟩; replace hb00 := bl_call hb00 (Nat.le_refl _) hb2))
    go_ret
    exact ⟨rfl, hb00⟩
  by_cases q2 : 30 < lb.length
  · skip
    go_wp2_with (first
      | (go_at_call 18; refine (HAW.out _).mono ?_; rintro e w2 ⟨rfl, hb2⟩; replace hb00 := bl_call hb00 (Nat.le_refl _) hb2))
    go_ret
    exact ⟨rfl, hb00⟩
  by_cases q3 : 30 < ls.length
  · skip
    go_wp2_with (first
      | (go_at_call 18; refine (HAW.out _).mono ?_; rintro e w2 ⟨rfl, hb2⟩; replace hb00 := bl_call hb00 (Nat.le_refl _) hb2))
    go_ret
    exact ⟨rfl, hb00⟩
  by_cases q4 : 30 < lk.length
  · skip
    go_wp2_with (first
      | (go_at_call 18; refine (HAW.out _).mono ?_; rintro e w2 ⟨rfl, hb2⟩; replace hb00 := bl_call hb00 (Nat.le_refl _) hb2))
    go_ret
    exact ⟨rfl, hb00⟩
  by_cases q5 : 30 < ld.length
  · skip
    go_wp2_with (first
      | (go_at_call 18; refine (HAW.out _).mono ?_; rintro e w2 ⟨rfl, hb2⟩; replace hb00 := bl_call hb00 (Nat.le_refl _) hb2))
    go_ret
    exact ⟨rfl, hb00⟩
  obtain ⟨⟨s0, s1, s2, s3, s4, s5⟩, ⟨s6, s7, s8, s9, s10, s11⟩, s12⟩ := hs.get6
  go_upto_region 6 with (first
    | (go_at_call 18; refine (HAW.out _).mono ?_; rintro e w2 ⟨rfl, hb2⟩; replace hb00 := bl_call hb00 (Nat.le_refl _) hb2; replace hs := hs.call hb2; clear s0 s1 s2 s3 s4 s5 s6 s7 s8 s9 s10 s11 s12; clear hb2; obtain ⟨⟨s0, s1, s2, s3, s4, s5⟩, ⟨s6, s7, s8, s9, s10, s11⟩, s12⟩ := hs.get6)
    | (go_at_call 36; refine (HCIR.out _).mono ?_; rintro e w3 ⟨rfl, hb3⟩; replace hb00 := bl_call hb00 (Nat.le_refl _) hb3; replace hs := hs.call hb3; clear s0 s1 s2 s3 s4 s5 s6 s7 s8 s9 s10 s11 s12; clear hb3; obtain ⟨⟨s0, s1, s2, s3, s4, s5⟩, ⟨s6, s7, s8, s9, s10, s11⟩, s12⟩ := hs.get6))
  clear s0 s1 s2 s3 s4 s5 s6 s7 s8 s9 s10 s11 s12
  clear hs HCIR HAW
  have hx := Vs.new w3 [.int .u8 yk, .int .u8 F, .int .i64 yb, .int .i64 yl, .int .i64 ym, .int .i64 yc] #[.int .u8 yk, .int .u8 F, .int .i64 yb, .int .i64 yl, .int .i64 ym, .int .i64 yc] 60 rfl
  have hbA : Below w3.heap.size w3 (w3.alloc (.cells #[.int .u8 yk, .int .u8 F, .int .i64 yb, .int .i64 yl, .int .i64 ym, .int .i64 yc] 60)) := by repeat (first | exact Below.refl _ _ | with_reducible assumption | (refine bl_alloc ?_ (Nat.le_refl _) _))
  replace hb00 := bl_call hb00 (Nat.le_refl _) hbA
  clear hbA
  generalize w3.alloc (.cells #[.int .u8 yk, .int .u8 F, .int .i64 yb, .int .i64 yl, .int .i64 ym, .int .i64 yc] 60) = w4 at hb00 hx ⊢
  obtain ⟨⟨x0, x1, x2, x3, x4, x5⟩, ⟨x6, x7, x8, x9, x10, x11⟩, x12⟩ := hx.get6
  have hxl : w3.heap.size < w4.heap.size := hx.lt
  refine region_B (n := 7) (m := 7) (f := 7) (by kernel_rfl) (by kernel_rfl) rfl ?_
  refine WpH.takeD 0 (some 70) (v := ?_) rfl rfl (by kernel_rfl) (fun _ _ _ h => h) (.val rfl (fun wz hwz => ?_)) ?_
  rotate_left
  · go_simp; try (with_reducible rfl)
  (simp only [Act.put]); (try simp only [List.setIfInBounds_toArray]); (try simp only [List.set_cons_succ]); (try simp only [List.set_cons_zero])
  refine WpH.takeD 1 (some 71) (v := ?_) rfl rfl (by kernel_rfl) (fun _ _ _ h => h) (.val rfl (fun wz hwz => ?_)) ?_
  rotate_left
  · (obtain ⟨hcz, hfz⟩ := bcell hwz; go_simp; try (with_reducible rfl))
  (simp only [Act.put]); (try simp only [List.setIfInBounds_toArray]); (try simp only [List.set_cons_succ]); (try simp only [List.set_cons_zero])
  refine WpH.takeD 2 (some 72) (v := ?_) rfl rfl (by kernel_rfl) (fun _ _ _ h => h) (.val rfl (fun wz hwz => ?_)) ?_
  rotate_left
  · go_simp; try (with_reducible rfl)
  (simp only [Act.put]); (try simp only [List.setIfInBounds_toArray]); (try simp only [List.set_cons_succ]); (try simp only [List.set_cons_zero])
  refine WpH.takeD 3 (some 73) (v := ?_) rfl rfl (by kernel_rfl) (fun _ _ _ h => h) (.val rfl (fun wz hwz => ?_)) ?_
  rotate_left
  · (obtain ⟨hcz, hfz⟩ := bcell hwz; go_simp; try (with_reducible rfl))
  (simp only [Act.put]); (try simp only [List.setIfInBounds_toArray]); (try simp only [List.set_cons_succ]); (try simp only [List.set_cons_zero])
  refine WpH.takeD 4 (some 74) (v := ?_) rfl rfl (by kernel_rfl) (fun _ _ _ h => h) (.val rfl (fun wz hwz => ?_)) ?_
  rotate_left
  · go_simp; try (with_reducible rfl)
  (simp only [Act.put]); (try simp only [List.setIfInBounds_toArray]); (try simp only [List.set_cons_succ]); (try simp only [List.set_cons_zero])
  refine WpH.takeD 5 (some 16) (v := ?_) rfl rfl (by kernel_rfl) (fun _ _ _ h => h) (.val rfl (fun wz hwz => ?_)) ?_
  rotate_left
  · go_simp; try (with_reducible rfl)
  (simp only [Act.put]); (try simp only [List.setIfInBounds_toArray]); (try simp only [List.set_cons_succ]); (try simp only [List.set_cons_zero])
  refine WpH.takeD 6 (some 17) (v := ?_) rfl rfl (by kernel_rfl) (fun _ _ _ h => h) (.val rfl (fun wz hwz => ?_)) ?_
  rotate_left
  · go_simp; try (with_reducible rfl)
  (simp only [Act.put]); (try simp only [List.setIfInBounds_toArray]); (try simp only [List.set_cons_succ]); (try simp only [List.set_cons_zero])
  refine WpH.doneB (by kernel_rfl) (fun w5 hw5 => ?_)
  (try simp only [List.drop_succ_cons]); (try simp only [List.drop_zero]); (try simp only [Nat.reduceSub]); (try simp only [List.take_succ_cons]); (try simp only [List.take_zero])
  clear x0 x1 x2 x3 x4 x5 x6 x7 x8 x9 x10 x11 x12
  replace hb00 := bl_call hb00 (Nat.le_refl _) hw5
  replace hx := hx.call hw5
  clear hw5
  obtain ⟨⟨x0, x1, x2, x3, x4, x5⟩, ⟨x6, x7, x8, x9, x10, x11⟩, x12⟩ := hx.get6
  go_upto_region 8 with (first
    | (go_at_call 45; refine (HIN.out _).mono ?_; rintro e w5i ⟨rfl, hb5i⟩; replace hb00 := bl_call hb00 (Nat.le_refl _) hb5i; replace hx := hx.call hb5i; clear x0 x1 x2 x3 x4 x5 x6 x7 x8 x9 x10 x11 x12; clear hb5i; obtain ⟨⟨x0, x1, x2, x3, x4, x5⟩, ⟨x6, x7, x8, x9, x10, x11⟩, x12⟩ := hx.get6))
  clear x0 x1 x2 x3 x4 x5 x6 x7 x8 x9 x10 x11 x12
  go_wp2_with fail
  refine (HSM1.out _ _ _ (H0.out.later hb00)).mono ?_
  rintro e w6 ⟨g1, z1, hl1, rfl, hB, _, hbq⟩
  replace hb00 := bl_call hb00 (Nat.le_refl _) hbq
  replace hx := hx.call hbq
  have hv1 : SlK w6 w6.heap.size (.slice (some ⟨g1, 0, none⟩) n n) z1 := hB.slN hl1 (by omega)
  have HL1 := Lib.hid hl1
  clear hl1 hB hbq
  go_wp2_with fail
  refine (HSM2.out _ _ _ (H1.out.later hb00)).mono ?_
  rintro e w7 ⟨g2, z2, hl2, rfl, hB, _, hbq⟩
  replace hb00 := bl_call hb00 (Nat.le_refl _) hbq
  replace hx := hx.call hbq
  replace hv1 := hv1.later hbq
  have hv2 : SlK w7 w7.heap.size (.slice (some ⟨g2, 0, none⟩) n n) z2 := hB.slN hl2 (by omega)
  have HL2 := Lib.hid hl2
  clear hl2 hB hbq
  go_wp2_with fail
  refine (HSM1.out _ _ _ (H2.out.later hb00)).mono ?_
  rintro e w8 ⟨g3, z3, hl3, rfl, hB, _, hbq⟩
  replace hb00 := bl_call hb00 (Nat.le_refl _) hbq
  replace hx := hx.call hbq
  replace hv1 := hv1.later hbq
  replace hv2 := hv2.later hbq
  have hv3 : SlK w8 w8.heap.size (.slice (some ⟨g3, 0, none⟩) n n) z3 := hB.slN hl3 (by omega)
  have HL3 := Lib.hid hl3
  clear hl3 hB hbq
  have HLA : Hid ((addL z1 z3).length = n) := by show (addL z1 z3).length = n; rw [addL_length _ _ (by rw [HL1.out, HL3.out]), HL1.out]
  have HLB : Hid ((subL z2 z3).length = n) := by show (subL z2 z3).length = n; rw [subL_length _ _ (by rw [HL2.out, HL3.out]), HL2.out]
  go_wp2_with fail
  refine (HADD.out _ _ z1 z3 _ hv1 hv3 HL1.out HL3.out).mono ?_
  rintro e w9 ⟨gA, rfl, hB, _, hbq⟩
  rw [HLA.out]
  replace hb00 := bl_call hb00 (Nat.le_refl _) hbq
  replace hx := hx.call hbq
  replace hv1 := hv1.later hbq
  replace hv2 := hv2.later hbq
  replace hv3 := hv3.later hbq
  have hvA := hB.slN HLA.out (by omega)
  clear hB hbq
  cases other with
  | true =>
    go_wp2_with fail
    refine (HSUB.out _ _ z2 z3 _ hv2 hv3 HL2.out HL3.out).mono ?_
    rintro e w10 ⟨gB, rfl, hB, hgB, hbq⟩
    rw [HLB.out]
    have hgb : w.heap.size ≤ gB := Nat.le_trans hb00.size hgB
    obtain ⟨a0, ha0⟩ : ∃ a, (subL z2 z3)[0]? = some a := ⟨_, List.getElem?_eq_getElem (by rw [HLB.out]; omega)⟩
    have hrow := hB.row 0 _ (esK_at ha0)
    have fr0 := hB.frozen 0
    have fr1 := hB.frozen 1
    obtain ⟨d0, d1⟩ := hrow
    rw [Nat.zero_mul] at d0 d1
    have hbl := hB.lt
    have hn0 : (0 : Int) < (n : Int) := by omega
    have hn00 : 0 < n := by omega
    have hn01 : ¬ (n = 0) := by omega
    have HA0 := Lib.hid ha0
    change _ = some (Value.int .u64 (lo a0)) at d0
    change _ = some (Value.int .u64 (hi a0)) at d1
    clear ha0
    go_upto_region 12 with fail
    refine region_B (n := 9) (m := 10) (f := 9) (by kernel_rfl) (by kernel_rfl) rfl ?_
    refine WpH.takeD 0 (some 104) (v := ?_) rfl rfl (by kernel_rfl) (fun _ _ _ h => h) (.val rfl (fun wz hwz => ?_)) ?_
    rotate_left
    · go_simp; try (with_reducible rfl)
    (simp only [Act.put]); (try simp only [List.setIfInBounds_toArray]); (try simp only [List.set_cons_succ]); (try simp only [List.set_cons_zero])
    refine WpH.takeD 1 (some 105) (v := ?_) rfl rfl (by kernel_rfl) (fun _ _ _ h => h) (.val rfl (fun wz hwz => ?_)) ?_
    rotate_left
    · go_simp; try (with_reducible rfl)
    (simp only [Act.put]); (try simp only [List.setIfInBounds_toArray]); (try simp only [List.set_cons_succ]); (try simp only [List.set_cons_zero])
    refine WpH.takeD 2 (some 106) (v := ?_) rfl rfl (by kernel_rfl) (fun _ _ _ h => h) (.val rfl (fun wz hwz => ?_)) ?_
    rotate_left
    · go_simp; try (with_reducible rfl)
    (simp only [Act.put]); (try simp only [List.setIfInBounds_toArray]); (try simp only [List.set_cons_succ]); (try simp only [List.set_cons_zero])
    refine WpH.takeD 3 (some 107) (v := ?_) rfl rfl (by kernel_rfl) (fun _ _ _ h => h) (.val rfl (fun wz hwz => ?_)) ?_
    rotate_left
    · go_simp; try (with_reducible rfl)
    (simp only [Act.put]); (try simp only [List.setIfInBounds_toArray]); (try simp only [List.set_cons_succ]); (try simp only [List.set_cons_zero])
    refine WpH.takeD 4 (some 108) (v := ?_) rfl rfl (by kernel_rfl) (fun _ _ _ h => h) (.val rfl (fun wz hwz => ?_)) ?_
    rotate_left
    · (obtain ⟨hcz, hfz⟩ := bcell hwz; go_simp; try (with_reducible rfl))
    (simp only [Act.put]); (try simp only [List.setIfInBounds_toArray]); (try simp only [List.set_cons_succ]); (try simp only [List.set_cons_zero])
    refine WpH.takeD 5 (some 109) (v := ?_) rfl rfl (by kernel_rfl) (fun _ _ _ h => h) (.val rfl (fun wz hwz => ?_)) ?_
    rotate_left
    · go_simp; try (with_reducible rfl)
    (simp only [Act.put]); (try simp only [List.setIfInBounds_toArray]); (try simp only [List.set_cons_succ]); (try simp only [List.set_cons_zero])
    refine WpH.takeD 6 (some 110) rfl rfl (by kernel_rfl) (fun _ _ _ h => h) (.call rfl (fun wz hwz => field_One HF.out wz) (fun wz hwz => ?_)) ?_
    · go_simp; try (with_reducible rfl)
    (simp only [Act.put]); (try simp only [List.setIfInBounds_toArray]); (try simp only [List.set_cons_succ]); (try simp only [List.set_cons_zero])
    refine WpH.takeD 7 (some 111) rfl rfl (by kernel_rfl) (fun _ _ _ h => h) (.call rfl (fun wz hwz => field_AddK HF.out a0 1 wz) (fun wz hwz => ?_)) ?_
    · go_simp; try (with_reducible rfl)
    (simp only [Act.put]); (try simp only [List.setIfInBounds_toArray]); (try simp only [List.set_cons_succ]); (try simp only [List.set_cons_zero])
    refine WpH.takeD 8 (some 112) (v := ?_) rfl rfl (by kernel_rfl) (fun _ _ _ h => h) (.val rfl (fun wz hwz => ?_)) ?_
    rotate_left
    · go_simp; try (with_reducible rfl)
    (simp only [Act.put]); (try simp only [List.setIfInBounds_toArray]); (try simp only [List.set_cons_succ]); (try simp only [List.set_cons_zero])
    refine WpH.doneB (by kernel_rfl) (fun w11 hw11 => ?_)
    (try simp only [List.drop_succ_cons]); (try simp only [List.drop_zero]); (try simp only [Nat.reduceSub]); (try simp only [List.take_succ_cons]); (try simp only [List.take_zero])
    clear d0 d1 fr0 fr1 hbl
    replace hB := hB.call hw11
    have hrow := hB.row 0 _ (esK_at HA0.out)
    have fr0 := hB.frozen 0
    have fr1 := hB.frozen 1
    obtain ⟨d0, d1⟩ := hrow
    rw [Nat.zero_mul] at d0 d1
    have hbz := bl_set (p := ⟨gB, 1, none⟩) (bl_set (p := ⟨gB, 0, none⟩) (hbq.trans (hw11.mono hbq.size)) hgB (.int .u64 (lo (a0 + 1)))) hgB (.int .u64 (hi (a0 + 1)))
    have hB2 : BlkE ((w11.setCell ⟨gB, 0, none⟩ (.int .u64 (lo (a0 + 1)))).setCell ⟨gB, 1, none⟩ (.int .u64 (hi (a0 + 1)))) gB (esK ((subL z2 z3).set 0 (a0 + 1))) := by
      have h := hB.set 0 (lo (a0 + 1)) (hi (a0 + 1))
      rw [Nat.zero_mul] at h
      have h2 : esK ((subL z2 z3).set 0 (a0 + 1)) = (esK (subL z2 z3)).set 0 (lo (a0 + 1), hi (a0 + 1)) := by
        unfold esK
        rw [List.map_set]
        rfl
      rw [h2]
      exact h
    have HLO : Hid (((subL z2 z3).set 0 (a0 + 1)).length = n) := by show ((subL z2 z3).set 0 (a0 + 1)).length = n; rw [List.length_set, HLB.out]
    go_upto_region 13 with fail
    clear d0 d1 fr0 fr1 hw11 hbq hB
    replace hb00 := bl_call hb00 (Nat.le_refl _) hbz
    replace hx := hx.call hbz
    replace hv1 := hv1.later hbz
    replace hv2 := hv2.later hbz
    replace hv3 := hv3.later hbz
    replace hvA := hvA.later hbz
    generalize (w11.setCell ⟨gB, 0, none⟩ (.int .u64 (lo (a0 + 1)))).setCell ⟨gB, 1, none⟩ (.int .u64 (hi (a0 + 1))) = w12 at hB2 hb00 hx hv1 hv2 hv3 hvA ⊢
    have hvB := hB2.slN HLO.out (by omega)
    clear hB2 hbz
    go_wp2_with fail
    refine (HSM1.out _ _ _ (H3.out.later hb00)).mono ?_
    rintro e w13 ⟨g4, z4, hl4, rfl, hB, _, hbq⟩
    replace hb00 := bl_call hb00 (Nat.le_refl _) hbq
    replace hx := hx.call hbq
    replace hv1 := hv1.later hbq
    replace hv2 := hv2.later hbq
    replace hv3 := hv3.later hbq
    replace hvA := hvA.later hbq
    replace hvB := hvB.later hbq
    have hv4 : SlK w13 w13.heap.size (.slice (some ⟨g4, 0, none⟩) n n) z4 := hB.slN hl4 (by omega)
    have HL4 := Lib.hid hl4
    clear hl4 hB hbq
    go_wp2_with fail
    refine (HSM3.out _ _ _ (H4.out.later hb00)).mono ?_
    rintro e w14 ⟨g5, z5, hl5, rfl, hB, _, hbq⟩
    replace hb00 := bl_call hb00 (Nat.le_refl _) hbq
    replace hx := hx.call hbq
    replace hv1 := hv1.later hbq
    replace hv2 := hv2.later hbq
    replace hv3 := hv3.later hbq
    replace hvA := hvA.later hbq
    replace hvB := hvB.later hbq
    replace hv4 := hv4.later hbq
    have hv5 : SlK w14 w14.heap.size (.slice (some ⟨g5, 0, none⟩) n n) z5 := hB.slN hl5 (by omega)
    have HL5 := Lib.hid hl5
    clear hl5 hB hbq
    obtain ⟨⟨x0, x1, x2, x3, x4, x5⟩, ⟨x6, x7, x8, x9, x10, x11⟩, x12⟩ := hx.get6
    go_wp2_with fail
    refine (HSW.out _ _ _ _ _ _ z1 z2 (addL z1 z3) ((subL z2 z3).set 0 (a0 + 1)) z4 z5 _ hv1 hv2 hvA hvB hv4 hv5 HL1.out HL2.out HLA.out HLO.out HL4.out HL5.out).mono ?_
    rintro e w15 hsw
    rcases hsw with ⟨heq, _⟩ | ⟨_, rfl, hbq⟩
    · exact absurd heq (swap_other z1 z2 z3 a0 (by rw [HL1.out, HL3.out]) (by rw [HL2.out, HL3.out]) HA0.out)
    clear x0 x1 x2 x3 x4 x5 x6 x7 x8 x9 x10 x11 x12
    replace hb00 := bl_call hb00 (Nat.le_refl _) hbq
    replace hx := hx.call hbq
    replace hv1 := hv1.later hbq
    replace hv2 := hv2.later hbq
    replace hv3 := hv3.later hbq
    replace hvA := hvA.later hbq
    replace hvB := hvB.later hbq
    replace hv4 := hv4.later hbq
    replace hv5 := hv5.later hbq
    go_wp2_with fail
    go_ret
    exact ⟨rfl, hb00⟩
  | false =>
    go_wp2_with fail
    refine (HSUB.out _ _ z2 z3 _ hv2 hv3 HL2.out HL3.out).mono ?_
    rintro e w10 ⟨gB, rfl, hB, hgB, hbq⟩
    rw [HLB.out]
    have hgb : w.heap.size ≤ gB := Nat.le_trans hb00.size hgB
    replace hb00 := bl_call hb00 (Nat.le_refl _) hbq
    replace hx := hx.call hbq
    replace hv1 := hv1.later hbq
    replace hv2 := hv2.later hbq
    replace hv3 := hv3.later hbq
    replace hvA := hvA.later hbq
    clear hbq hgB
    have hvB := hB.slN HLB.out (by omega)
    clear hB hgb
    go_upto_region 13 with fail
    go_wp2_with fail
    refine (HSM1.out _ _ _ (H3.out.later hb00)).mono ?_
    rintro e w13 ⟨g4, z4, hl4, rfl, hB, _, hbq⟩
    replace hb00 := bl_call hb00 (Nat.le_refl _) hbq
    replace hx := hx.call hbq
    replace hv1 := hv1.later hbq
    replace hv2 := hv2.later hbq
    replace hv3 := hv3.later hbq
    replace hvA := hvA.later hbq
    replace hvB := hvB.later hbq
    have hv4 : SlK w13 w13.heap.size (.slice (some ⟨g4, 0, none⟩) n n) z4 := hB.slN hl4 (by omega)
    have HL4 := Lib.hid hl4
    clear hl4 hB hbq
    go_wp2_with fail
    refine (HSM3.out _ _ _ (H4.out.later hb00)).mono ?_
    rintro e w14 ⟨g5, z5, hl5, rfl, hB, _, hbq⟩
    replace hb00 := bl_call hb00 (Nat.le_refl _) hbq
    replace hx := hx.call hbq
    replace hv1 := hv1.later hbq
    replace hv2 := hv2.later hbq
    replace hv3 := hv3.later hbq
    replace hvA := hvA.later hbq
    replace hvB := hvB.later hbq
    replace hv4 := hv4.later hbq
    have hv5 : SlK w14 w14.heap.size (.slice (some ⟨g5, 0, none⟩) n n) z5 := hB.slN hl5 (by omega)
    have HL5 := Lib.hid hl5
    clear hl5 hB hbq
    obtain ⟨⟨x0, x1, x2, x3, x4, x5⟩, ⟨x6, x7, x8, x9, x10, x11⟩, x12⟩ := hx.get6
    go_wp2_with fail
    refine (HSW.out _ _ _ _ _ _ z1 z2 (addL z1 z3) (subL z2 z3) z4 z5 _ hv1 hv2 hvA hvB hv4 hv5 HL1.out HL2.out HLA.out HLB.out HL4.out HL5.out).mono ?_
    rintro e w15 hsw
    rcases hsw with ⟨_, u, v, rfl, hu, hv, hbq⟩ | ⟨hne, _⟩
    rotate_left
    · exact absurd (swap_sum z1 z2 z3 (by rw [HL1.out, HL3.out]) (by rw [HL2.out, HL3.out])).symm hne
    obtain ⟨Au, nu, cu, rfl⟩ := hu.shape
    obtain ⟨Av, nv, cv, rfl⟩ := hv.shape
    clear x0 x1 x2 x3 x4 x5 x6 x7 x8 x9 x10 x11 x12
    replace hb00 := bl_call hb00 (Nat.le_refl _) hbq
    replace hx := hx.call hbq
    replace hv1 := hv1.later hbq
    replace hv2 := hv2.later hbq
    replace hv3 := hv3.later hbq
    replace hvA := hvA.later hbq
    replace hvB := hvB.later hbq
    replace hv4 := hv4.later hbq
    replace hv5 := hv5.later hbq
    clear hbq
    have HLP : Hid ((subL z1 z4).length = n) := by show (subL z1 z4).length = n; rw [subL_length _ _ (by rw [HL1.out, HL4.out]), HL1.out]
    have HLQ : Hid ((subL z2 z5).length = n) := by show (subL z2 z5).length = n; rw [subL_length _ _ (by rw [HL2.out, HL5.out]), HL2.out]
    have HLU : Hid ((subL (addL z1 z3) (subL z1 z4)).length = n) := by show (subL (addL z1 z3) (subL z1 z4)).length = n; rw [subL_length _ _ (by rw [HLA.out, HLP.out]), HLA.out]
    have HLV : Hid ((subL (subL z2 z3) (subL z2 z5)).length = n) := by show (subL (subL z2 z3) (subL z2 z5)).length = n; rw [subL_length _ _ (by rw [HLB.out, HLQ.out]), HLB.out]
    have E1 := Lib.hid (subL_back (addL z1 z3) (subL z1 z4) (by rw [HLA.out, HLP.out]))
    have E2 := Lib.hid (subL_back (subL z2 z3) (subL z2 z5) (by rw [HLB.out, HLQ.out]))
    have E3 := Lib.hid (swap_second z1 z2 z3 z4 z5 (by rw [HL1.out, HL3.out]) (by rw [HL2.out, HL3.out]) (by rw [HL4.out, HL3.out]) (by rw [HL5.out, HL3.out]))
    obtain ⟨oX, hoX⟩ : ∃ z, addL z1 z3 = z := ⟨_, rfl⟩
    obtain ⟨oY, hoY⟩ : ∃ z, subL z2 z3 = z := ⟨_, rfl⟩
    rw [hoX] at hvA hu HLU HLA E1 E3
    rw [hoY] at hvB hv HLV HLB E2 E3
    obtain ⟨fP, hfP⟩ : ∃ z, subL z1 z4 = z := ⟨_, rfl⟩
    obtain ⟨fQ, hfQ⟩ : ∃ z, subL z2 z5 = z := ⟨_, rfl⟩
    rw [hfP] at hu HLU HLP E1 E3
    rw [hfQ] at hv HLV HLQ E2 E3
    obtain ⟨uu, huu⟩ : ∃ z, subL oX fP = z := ⟨_, rfl⟩
    obtain ⟨vv, hvv⟩ : ∃ z, subL oY fQ = z := ⟨_, rfl⟩
    rw [huu] at hu HLU E1 E3
    rw [hvv] at hv HLV E2 E3
    have HFP := Lib.hid hfP
    have HFQ := Lib.hid hfQ
    clear hoX hoY hfP hfQ huu hvv
    clear hx hxl
    go_wp2_with fail
    refine (HSPL.out _ _ z1 z4 _ hv1 hv4 HL1.out HL4.out).mono ?_
    rintro e w20 ⟨u9, v9, rfl, hs20, ht20, hbq⟩
    obtain ⟨Au20, nu20, cu20, rfl⟩ := hs20.shape
    obtain ⟨Av20, nv20, cv20, rfl⟩ := ht20.shape
    replace hb00 := bl_call hb00 (Nat.le_refl _) hbq
    replace hv1 := hv1.later hbq
    replace hv2 := hv2.later hbq
    replace hvA := hvA.later hbq
    replace hvB := hvB.later hbq
    replace hv4 := hv4.later hbq
    replace hv5 := hv5.later hbq
    replace hu := hu.later hbq
    replace hv := hv.later hbq
    clear hbq
    go_upto_region 18 with fail
    have hd20 := V2.new w20 (.slice Au20 nu20 cu20) (.slice Av20 nv20 cv20) 28
    have hbA : Below w20.heap.size w20 (w20.alloc (.cells #[.slice Au20 nu20 cu20, .slice Av20 nv20 cv20] 28)) := by repeat (first | exact Below.refl _ _ | with_reducible assumption | (refine bl_alloc ?_ (Nat.le_refl _) _))
    replace hb00 := bl_call hb00 (Nat.le_refl _) hbA
    replace hv1 := hv1.later hbA
    replace hv2 := hv2.later hbA
    replace hvA := hvA.later hbA
    replace hvB := hvB.later hbA
    replace hv4 := hv4.later hbA
    replace hv5 := hv5.later hbA
    replace hu := hu.later hbA
    replace hv := hv.later hbA
    replace hs20 := hs20.later hbA
    replace ht20 := ht20.later hbA
    clear hbA
    generalize w20.alloc (.cells #[.slice Au20 nu20 cu20, .slice Av20 nv20 cv20] 28) = x20 at hb00 hv1 hv2 hvA hvB hv4 hv5 hu hv hs20 ht20 hd20 ⊢
    go_wp2_with fail
    refine (HSPL.out _ _ oX uu _ hvA hu HLA.out HLU.out).mono ?_
    rintro e w21 ⟨u9, v9, rfl, hs21, ht21, hbq⟩
    obtain ⟨Au21, nu21, cu21, rfl⟩ := hs21.shape
    obtain ⟨Av21, nv21, cv21, rfl⟩ := ht21.shape
    replace hb00 := bl_call hb00 (Nat.le_refl _) hbq
    replace hv1 := hv1.later hbq
    replace hv2 := hv2.later hbq
    replace hvA := hvA.later hbq
    replace hvB := hvB.later hbq
    replace hv4 := hv4.later hbq
    replace hv5 := hv5.later hbq
    replace hu := hu.later hbq
    replace hv := hv.later hbq
    replace hs20 := hs20.later hbq
    replace ht20 := ht20.later hbq
    replace hd20 := hd20.call hbq
    clear hbq
    go_upto_region 19 with fail
    have hd21 := V2.new w21 (.slice Au21 nu21 cu21) (.slice Av21 nv21 cv21) 28
    have hbA : Below w21.heap.size w21 (w21.alloc (.cells #[.slice Au21 nu21 cu21, .slice Av21 nv21 cv21] 28)) := by repeat (first | exact Below.refl _ _ | with_reducible assumption | (refine bl_alloc ?_ (Nat.le_refl _) _))
    replace hb00 := bl_call hb00 (Nat.le_refl _) hbA
    replace hv1 := hv1.later hbA
    replace hv2 := hv2.later hbA
    replace hvA := hvA.later hbA
    replace hvB := hvB.later hbA
    replace hv4 := hv4.later hbA
    replace hv5 := hv5.later hbA
    replace hu := hu.later hbA
    replace hv := hv.later hbA
    replace hs20 := hs20.later hbA
    replace ht20 := ht20.later hbA
    replace hd20 := hd20.call hbA
    replace hs21 := hs21.later hbA
    replace ht21 := ht21.later hbA
    clear hbA
    generalize w21.alloc (.cells #[.slice Au21 nu21 cu21, .slice Av21 nv21 cv21] 28) = x21 at hb00 hv1 hv2 hvA hvB hv4 hv5 hu hv hs20 ht20 hd20 hs21 ht21 hd21 ⊢
    go_wp2_with fail
    refine (HSPL.out _ _ z2 z5 _ hv2 hv5 HL2.out HL5.out).mono ?_
    rintro e w22 ⟨u9, v9, rfl, hs22, ht22, hbq⟩
    obtain ⟨Au22, nu22, cu22, rfl⟩ := hs22.shape
    obtain ⟨Av22, nv22, cv22, rfl⟩ := ht22.shape
    replace hb00 := bl_call hb00 (Nat.le_refl _) hbq
    replace hv1 := hv1.later hbq
    replace hv2 := hv2.later hbq
    replace hvA := hvA.later hbq
    replace hvB := hvB.later hbq
    replace hv4 := hv4.later hbq
    replace hv5 := hv5.later hbq
    replace hu := hu.later hbq
    replace hv := hv.later hbq
    replace hs20 := hs20.later hbq
    replace ht20 := ht20.later hbq
    replace hd20 := hd20.call hbq
    replace hs21 := hs21.later hbq
    replace ht21 := ht21.later hbq
    replace hd21 := hd21.call hbq
    clear hbq
    go_upto_region 20 with fail
    have hd22 := V2.new w22 (.slice Au22 nu22 cu22) (.slice Av22 nv22 cv22) 28
    have hbA : Below w22.heap.size w22 (w22.alloc (.cells #[.slice Au22 nu22 cu22, .slice Av22 nv22 cv22] 28)) := by repeat (first | exact Below.refl _ _ | with_reducible assumption | (refine bl_alloc ?_ (Nat.le_refl _) _))
    replace hb00 := bl_call hb00 (Nat.le_refl _) hbA
    replace hv1 := hv1.later hbA
    replace hv2 := hv2.later hbA
    replace hvA := hvA.later hbA
    replace hvB := hvB.later hbA
    replace hv4 := hv4.later hbA
    replace hv5 := hv5.later hbA
    replace hu := hu.later hbA
    replace hv := hv.later hbA
    replace hs20 := hs20.later hbA
    replace ht20 := ht20.later hbA
    replace hd20 := hd20.call hbA
    replace hs21 := hs21.later hbA
    replace ht21 := ht21.later hbA
    replace hd21 := hd21.call hbA
    replace hs22 := hs22.later hbA
    replace ht22 := ht22.later hbA
    clear hbA
    generalize w22.alloc (.cells #[.slice Au22 nu22 cu22, .slice Av22 nv22 cv22] 28) = x22 at hb00 hv1 hv2 hvA hvB hv4 hv5 hu hv hs20 ht20 hd20 hs21 ht21 hd21 hs22 ht22 hd22 ⊢
    go_wp2_with fail
    refine (HSPL.out _ _ oY vv _ hvB hv HLB.out HLV.out).mono ?_
    rintro e w23 ⟨u9, v9, rfl, hs23, ht23, hbq⟩
    obtain ⟨Au23, nu23, cu23, rfl⟩ := hs23.shape
    obtain ⟨Av23, nv23, cv23, rfl⟩ := ht23.shape
    replace hb00 := bl_call hb00 (Nat.le_refl _) hbq
    replace hv1 := hv1.later hbq
    replace hv2 := hv2.later hbq
    replace hvA := hvA.later hbq
    replace hvB := hvB.later hbq
    replace hv4 := hv4.later hbq
    replace hv5 := hv5.later hbq
    replace hu := hu.later hbq
    replace hv := hv.later hbq
    replace hs20 := hs20.later hbq
    replace ht20 := ht20.later hbq
    replace hd20 := hd20.call hbq
    replace hs21 := hs21.later hbq
    replace ht21 := ht21.later hbq
    replace hd21 := hd21.call hbq
    replace hs22 := hs22.later hbq
    replace ht22 := ht22.later hbq
    replace hd22 := hd22.call hbq
    clear hbq
    go_upto_region 21 with fail
    have hd23 := V2.new w23 (.slice Au23 nu23 cu23) (.slice Av23 nv23 cv23) 28
    have hbA : Below w23.heap.size w23 (w23.alloc (.cells #[.slice Au23 nu23 cu23, .slice Av23 nv23 cv23] 28)) := by repeat (first | exact Below.refl _ _ | with_reducible assumption | (refine bl_alloc ?_ (Nat.le_refl _) _))
    replace hb00 := bl_call hb00 (Nat.le_refl _) hbA
    replace hv1 := hv1.later hbA
    replace hv2 := hv2.later hbA
    replace hvA := hvA.later hbA
    replace hvB := hvB.later hbA
    replace hv4 := hv4.later hbA
    replace hv5 := hv5.later hbA
    replace hu := hu.later hbA
    replace hv := hv.later hbA
    replace hs20 := hs20.later hbA
    replace ht20 := ht20.later hbA
    replace hd20 := hd20.call hbA
    replace hs21 := hs21.later hbA
    replace ht21 := ht21.later hbA
    replace hd21 := hd21.call hbA
    replace hs22 := hs22.later hbA
    replace ht22 := ht22.later hbA
    replace hd22 := hd22.call hbA
    replace hs23 := hs23.later hbA
    replace ht23 := ht23.later hbA
    clear hbA
    generalize w23.alloc (.cells #[.slice Au23 nu23 cu23, .slice Av23 nv23 cv23] 28) = x23 at hb00 hv1 hv2 hvA hvB hv4 hv5 hu hv hs20 ht20 hd20 hs21 ht21 hd21 hs22 ht22 hd22 hs23 ht23 hd23 ⊢
    obtain ⟨d200, d201, d202, d203, d204⟩ := V2.mk hd20.c0 hd20.c1 hd20.f0 hd20.f1 hd20.lt
    obtain ⟨d220, d221, d222, d223, d224⟩ := V2.mk hd22.c0 hd22.c1 hd22.f0 hd22.f1 hd22.lt
    go_wp2_with fail
    refine (HADD.out _ _ z4 z5 _ ht20 ht22 HL4.out HL5.out).mono ?_
    rintro e w24 ⟨gC, rfl, hB, _, hbq⟩
    have HLC : Hid ((addL z4 z5).length = n) := by show (addL z4 z5).length = n; rw [addL_length _ _ (by rw [HL4.out, HL5.out]), HL4.out]
    rw [HLC.out]
    clear d200 d201 d202 d203 d204 d220 d221 d222 d223 d224
    replace hb00 := bl_call hb00 (Nat.le_refl _) hbq
    replace hv1 := hv1.later hbq
    replace hv2 := hv2.later hbq
    replace hvA := hvA.later hbq
    replace hvB := hvB.later hbq
    replace hv4 := hv4.later hbq
    replace hv5 := hv5.later hbq
    replace hu := hu.later hbq
    replace hv := hv.later hbq
    replace hs20 := hs20.later hbq
    replace ht20 := ht20.later hbq
    replace hd20 := hd20.call hbq
    replace hs21 := hs21.later hbq
    replace ht21 := ht21.later hbq
    replace hd21 := hd21.call hbq
    replace hs22 := hs22.later hbq
    replace ht22 := ht22.later hbq
    replace hd22 := hd22.call hbq
    replace hs23 := hs23.later hbq
    replace ht23 := ht23.later hbq
    replace hd23 := hd23.call hbq
    have hvC := hB.slN HLC.out (by omega)
    clear hB hbq
    obtain ⟨d210, d211, d212, d213, d214⟩ := V2.mk hd21.c0 hd21.c1 hd21.f0 hd21.f1 hd21.lt
    obtain ⟨d230, d231, d232, d233, d234⟩ := V2.mk hd23.c0 hd23.c1 hd23.f0 hd23.f1 hd23.lt
    go_wp2_with fail
    refine (HADD.out _ _ uu vv _ ht21 ht23 HLU.out HLV.out).mono ?_
    rintro e w25 ⟨gD, rfl, hB, _, hbq⟩
    have HLD : Hid ((addL uu vv).length = n) := by show (addL uu vv).length = n; rw [addL_length _ _ (by rw [HLU.out, HLV.out]), HLU.out]
    rw [HLD.out]
    clear d210 d211 d212 d213 d214 d230 d231 d232 d233 d234
    replace hb00 := bl_call hb00 (Nat.le_refl _) hbq
    replace hv1 := hv1.later hbq
    replace hv2 := hv2.later hbq
    replace hvA := hvA.later hbq
    replace hvB := hvB.later hbq
    replace hv4 := hv4.later hbq
    replace hv5 := hv5.later hbq
    replace hu := hu.later hbq
    replace hv := hv.later hbq
    replace hs20 := hs20.later hbq
    replace ht20 := ht20.later hbq
    replace hd20 := hd20.call hbq
    replace hs21 := hs21.later hbq
    replace ht21 := ht21.later hbq
    replace hd21 := hd21.call hbq
    replace hs22 := hs22.later hbq
    replace ht22 := ht22.later hbq
    replace hd22 := hd22.call hbq
    replace hs23 := hs23.later hbq
    replace ht23 := ht23.later hbq
    replace hd23 := hd23.call hbq
    replace hvC := hvC.later hbq
    have hvD := hB.slN HLD.out (by omega)
    clear hB hbq
    obtain ⟨d200, d201, d202, d203, d204⟩ := V2.mk hd20.c0 hd20.c1 hd20.f0 hd20.f1 hd20.lt
    obtain ⟨d210, d211, d212, d213, d214⟩ := V2.mk hd21.c0 hd21.c1 hd21.f0 hd21.f1 hd21.lt
    obtain ⟨d220, d221, d222, d223, d224⟩ := V2.mk hd22.c0 hd22.c1 hd22.f0 hd22.f1 hd22.lt
    obtain ⟨d230, d231, d232, d233, d234⟩ := V2.mk hd23.c0 hd23.c1 hd23.f0 hd23.f1 hd23.lt
    go_wp2_with fail
    refine (ref_Same_eq _ _ _ _ _ hs20.toE hs21.toE (by rw [HFP.out, E1.out])).mono ?_
    rintro e w26 ⟨rfl, hbq⟩
    clear d200 d201 d202 d203 d204 d210 d211 d212 d213 d214 d220 d221 d222 d223 d224 d230 d231 d232 d233 d234
    replace hb00 := bl_call hb00 (Nat.le_refl _) hbq
    replace hd20 := hd20.call hbq
    replace hd21 := hd21.call hbq
    replace hd22 := hd22.call hbq
    replace hd23 := hd23.call hbq
    replace hs20 := hs20.later hbq
    replace hs21 := hs21.later hbq
    replace hs22 := hs22.later hbq
    replace hs23 := hs23.later hbq
    replace hvC := hvC.later hbq
    replace hvD := hvD.later hbq
    clear hbq
    obtain ⟨d200, d201, d202, d203, d204⟩ := V2.mk hd20.c0 hd20.c1 hd20.f0 hd20.f1 hd20.lt
    obtain ⟨d210, d211, d212, d213, d214⟩ := V2.mk hd21.c0 hd21.c1 hd21.f0 hd21.f1 hd21.lt
    obtain ⟨d220, d221, d222, d223, d224⟩ := V2.mk hd22.c0 hd22.c1 hd22.f0 hd22.f1 hd22.lt
    obtain ⟨d230, d231, d232, d233, d234⟩ := V2.mk hd23.c0 hd23.c1 hd23.f0 hd23.f1 hd23.lt
    go_wp2_with fail
    refine (ref_Same_eq _ _ _ _ _ hs22.toE hs23.toE (by rw [HFQ.out, E2.out])).mono ?_
    rintro e w27 ⟨rfl, hbq⟩
    clear d200 d201 d202 d203 d204 d210 d211 d212 d213 d214 d220 d221 d222 d223 d224 d230 d231 d232 d233 d234
    replace hb00 := bl_call hb00 (Nat.le_refl _) hbq
    replace hd20 := hd20.call hbq
    replace hd21 := hd21.call hbq
    replace hd22 := hd22.call hbq
    replace hd23 := hd23.call hbq
    replace hs20 := hs20.later hbq
    replace hs21 := hs21.later hbq
    replace hs22 := hs22.later hbq
    replace hs23 := hs23.later hbq
    replace hvC := hvC.later hbq
    replace hvD := hvD.later hbq
    clear hbq
    obtain ⟨d200, d201, d202, d203, d204⟩ := V2.mk hd20.c0 hd20.c1 hd20.f0 hd20.f1 hd20.lt
    obtain ⟨d210, d211, d212, d213, d214⟩ := V2.mk hd21.c0 hd21.c1 hd21.f0 hd21.f1 hd21.lt
    obtain ⟨d220, d221, d222, d223, d224⟩ := V2.mk hd22.c0 hd22.c1 hd22.f0 hd22.f1 hd22.lt
    obtain ⟨d230, d231, d232, d233, d234⟩ := V2.mk hd23.c0 hd23.c1 hd23.f0 hd23.f1 hd23.lt
    go_wp2_with fail
    refine (ref_Same_eq _ _ _ _ _ hvC.toE hvD.toE (by rw [E3.out])).mono ?_
    rintro e w28 ⟨rfl, hbq⟩
    replace hb00 := bl_call hb00 (Nat.le_refl _) hbq
    replace hd20 := hd20.call hbq
    replace hd21 := hd21.call hbq
    replace hd22 := hd22.call hbq
    replace hd23 := hd23.call hbq
    replace hs20 := hs20.later hbq
    replace hs21 := hs21.later hbq
    replace hs22 := hs22.later hbq
    replace hs23 := hs23.later hbq
    replace hvC := hvC.later hbq
    replace hvD := hvD.later hbq
    go_wp2_with fail
    go_ret
    exact ⟨rfl, hb00⟩

end Go.Proofs.Ytiphahbeedeebaa
