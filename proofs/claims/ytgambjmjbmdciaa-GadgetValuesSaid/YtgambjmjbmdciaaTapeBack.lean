/-
  THE PROOF OF TapeBack: for every input the law returns true, and the arguments read as they did. The walk (Awake; the law), the plain law on differences, the frame. Conditions: none.
-/
import Derived.Test.YtgambjmjbmdciaaSome
import Derived.Test.YtgambjmjbmdciaaOpen
namespace Go.Proofs.Ytgambjmjbmdciaa
open Go.RowKit Fm
set_option linter.unusedVariables false
set_option maxRecDepth 100000

/-! ### the plain law: differences in a field -/
abbrev zipS (f m : Int) (xs ys : List E) : List E := zipO (· - ·) f m xs ys

theorem zipS_length (f m : Int) (xs ys : List E) (h : xs.length = ys.length) : (zipS f m xs ys).length = xs.length := by
  unfold zipS zipO
  rw [List.length_zipWith, ← h, Nat.min_self]

theorem zipS_at {f m : Int} {xs ys : List E} {i : Nat} {a b : E} (ha : xs[i]? = some a) (hb : ys[i]? = some b) : (zipS f m xs ys)[i]? = some (eN ((nI f a.1 a.2 - nI f b.1 b.2) % m)) := by
  unfold zipS zipO
  rw [List.getElem?_zipWith, ha, hb]

theorem zipS_red {f m : Int} (hf : FM f m) (xs ys : List E) : ∀ e, e ∈ zipS f m xs ys → RedE m e := by
  intro e he
  unfold zipS zipO at he
  rw [List.mem_iff_getElem?] at he
  obtain ⟨i, hi⟩ := he
  rw [List.getElem?_zipWith] at hi
  split at hi
  · simp only [Option.some.injEq] at hi
    rw [← hi]
    exact redE_mod hf.pos.1
  · cases hi

theorem allIn_red {m : Int} {xs : List E} (h : ∀ e, e ∈ xs → RedE m e) : AllIn m xs := fun e he => (h e he).lt

theorem sub_back (p a b : Int) : (a - (a - b) % p) % p = b % p := by
  rw [Int.sub_emod, Int.emod_emod_of_dvd _ (Int.dvd_refl p), ← Int.sub_emod]
  congr 1
  omega

/-- what is taken from a, less what is left, is back -/
theorem zipS_back {f m : Int} (hf : FM f m) (os zs : List E) (h : os.length = zs.length) (hz : ∀ e, e ∈ zs → RedE m e) : zipS f m os (zipS f m os zs) = zs := by
  apply List.ext_getElem?
  intro i
  by_cases hi : i < zs.length
  · obtain ⟨o, ho⟩ : ∃ e, os[i]? = some e := ⟨_, List.getElem?_eq_getElem (by omega)⟩
    obtain ⟨z, hzi⟩ : ∃ e, zs[i]? = some e := ⟨_, List.getElem?_eq_getElem hi⟩
    rw [zipS_at ho (zipS_at ho hzi), hzi]
    obtain ⟨e1, e2, e3⟩ := (hz z (List.mem_of_getElem? hzi)).nI_eq hf
    have hp := hf.pos.1
    rw [nI_eN hf (Int.emod_nonneg _ (by omega)) (Int.emod_lt_of_pos _ hp), sub_back, Int.emod_eq_of_lt e2 e3, e1]
  · have hl : (zipS f m os (zipS f m os zs)).length = zs.length := by rw [zipS_length _ _ _ _ (by rw [zipS_length _ _ _ _ h]), h]
    rw [List.getElem?_eq_none (by omega), List.getElem?_eq_none (by omega)]

/-! ### Awake -/
theorem BlkE.new (w : World) (xs : List E) (cs : Array Value) (h : cs = (cellsE xs).toArray) : BlkE (w.alloc (.cells cs 41)) w.heap.size xs := by
  subst h
  exact heap_alloc_new w _

theorem awake31_val : zipS 1 18446744069414584321 [((7 : Int), (0 : Int))] (zipS 1 18446744069414584321 [((5 : Int), (0 : Int))] [((2 : Int), (0 : Int))]) = [(4, 0)] := by decide

set_option maxHeartbeats 4000000 in
theorem law31_Awake (w : World) : Calls Try.prog 22 #[] w fun e w' => e = .returned (.bool true) ∧ Below w.heap.size w w' := by
  have heq := eql_elem
  have hf : FM 1 18446744069414584321 := ⟨.inl ⟨rfl, rfl⟩⟩
  have hB1 : BlkE (((w.alloc (.cells #[.int .u64 5, .int .u64 0] 41)).alloc (.cells #[.int .u64 7, .int .u64 0] 41)).alloc (.cells #[.int .u64 2, .int .u64 0] 41)) w.heap.size [(5, 0)] :=
    BlkE.alloc (BlkE.alloc (BlkE.new w [(5, 0)] _ rfl) _) _
  have hB2 : BlkE (((w.alloc (.cells #[.int .u64 5, .int .u64 0] 41)).alloc (.cells #[.int .u64 7, .int .u64 0] 41)).alloc (.cells #[.int .u64 2, .int .u64 0] 41)) (w.heap.size + 1) [(7, 0)] := by
    have h := BlkE.alloc (BlkE.new (w.alloc (.cells #[.int .u64 5, .int .u64 0] 41)) [(7, 0)] #[.int .u64 7, .int .u64 0] rfl) (.cells #[.int .u64 2, .int .u64 0] 41)
    rwa [World.size_alloc] at h
  have hB3 : BlkE (((w.alloc (.cells #[.int .u64 5, .int .u64 0] 41)).alloc (.cells #[.int .u64 7, .int .u64 0] 41)).alloc (.cells #[.int .u64 2, .int .u64 0] 41)) (w.heap.size + 1 + 1) [(2, 0)] := by
    have h := BlkE.new ((w.alloc (.cells #[.int .u64 5, .int .u64 0] 41)).alloc (.cells #[.int .u64 7, .int .u64 0] 41)) [(2, 0)] #[.int .u64 2, .int .u64 0] rfl
    rwa [World.size_alloc, World.size_alloc] at h
  have ok1 : ∀ x : Int, 0 ≤ x → x ≤ 9 → ∀ e, e ∈ [((x : Int), (0 : Int))] → okE e := by
    intro x h0 h1 e he
    simp only [List.mem_singleton] at he
    subst he
    unfold okE
    dsimp only
    omega
  have in1 : ∀ x : Int, 0 ≤ x → x ≤ 9 → AllIn 18446744069414584321 [((x : Int), (0 : Int))] := by
    intro x h0 h1 e he
    simp only [List.mem_singleton] at he
    subst he
    dsimp only
    omega
  have hR := tape_Retape 1 18446744069414584321 hf _ _ _ [(5, 0)] [(7, 0)] [(2, 0)] _ (hB1.sl (by simp) (ok1 5 (by omega) (by omega)) hB1.lt) (hB2.sl (by simp) (ok1 7 (by omega) (by omega)) hB2.lt) (hB3.sl (by simp) (ok1 2 (by omega) (by omega)) hB3.lt) rfl rfl (by simp)
    (in1 5 (by omega) (by omega)) (in1 7 (by omega) (by omega)) (in1 2 (by omega) (by omega))
  rw [show zipO (· - ·) 1 18446744069414584321 [((7 : Int), (0 : Int))] (zipO (· - ·) 1 18446744069414584321 [((5 : Int), (0 : Int))] [((2 : Int), (0 : Int))]) = [(4, 0)] from awake31_val] at hR
  have HR := Lib.hid hR
  clear hR hB1 hB2 hB3 ok1 in1
  go_enter Try.func22, Try.ntmps22
  go_wp2_with fail
  refine HR.out.mono ?_
  rintro e w1 ⟨g, rfl, hB, hg, hb1⟩
  obtain ⟨c0, c1⟩ := hB.row 0 _ rfl
  dsimp only at c0 c1
  simp only [Nat.zero_mul, Nat.zero_add] at c0 c1
  go_wp2
  go_ret
  exact ⟨rfl, by repeat (first | exact Below.refl _ _ | with_reducible assumption | (refine bl_alloc ?_ (Nat.le_refl _) _) | (refine bl_set ?_ (by dsimp only; omega) _) | (refine Below.drew ?_) | (refine bl_drewN ?_ _) | (refine bl_call ?_ (Nat.le_refl _) (by assumption)))⟩

/-! ### the law -/
theorem law31_someI (f m p0 p1 : Int) (hf : FM f m) (hm : RefM f m p0 p1) (vl : Value) (l : List E) (many step : Nat) (si : Int) (hsi : si = (step : Int)) (w : World) (hl : SlE w w.heap.size vl l) (hmany : many ≤ 65536) (hstep : step ≤ 16) :
    Calls Try.prog 24 #[.int .i64 f, vl, .int .i64 many, .int .i64 si] w (RetB w (someE f m l many step)) := by
  subst hsi
  exact law31_some f m p0 p1 hf hm vl l many step w hl hmany hstep

theorem SlE.later {w w' : World} {v : Value} {xs : List E} (h : SlE w w.heap.size v xs) (hb : Below w.heap.size w w') : SlE w' w'.heap.size v xs := (h.below hb).mono hb.size
theorem SlE.ofB {w : World} {g : Nat} {xs : List E} (h : BlkE w g xs) (hn : xs.length ≤ 65536) (ok : ∀ e, e ∈ xs → okE e) : SlE w w.heap.size (.slice (some ⟨g, 0, none⟩) xs.length xs.length) xs := h.sl (by omega) ok h.lt

theorem ref_Same_eq (va vb : Value) (xs ys : List E) (w : World) (hx : SlE w w.heap.size va xs) (hy : SlE w w.heap.size vb ys) (h : xs = ys) :
    Calls Try.prog 27 #[va, vb] w fun e w' => e = .returned (.bool true) ∧ Below w.heap.size w w' := by
  have hs := ref_Same va vb xs ys w hx hy
  rwa [decide_eq_true h] at hs

set_option maxHeartbeats 8000000 in
theorem walk_TapeBack (n : Int) (vl vm vk : Value) (l mm k : List E) (w : World) (h0 : 0 ≤ n) (h1 : n ≤ 255) (hl : SlE w w.heap.size vl l) (hm : SlE w w.heap.size vm mm) (hk : SlE w w.heap.size vk k) :
    Calls Try.prog 3 #[.int .u8 n, vl, vm, vk] w fun e w' => e = .returned (.bool true) ∧ Below w.heap.size w w' := by
  have hl0 := hl
  have hm0 := hm
  have hk0 := hk
  obtain ⟨⟨A, ca, rfl, _, _, _⟩, _⟩ := hl
  obtain ⟨⟨B, cb, rfl, _, _, _⟩, _⟩ := hm
  obtain ⟨⟨C, cc, rfl, _, _, _⟩, _⟩ := hk
  by_cases hlen : l.length ≤ 20 ∧ mm.length ≤ 20 ∧ k.length ≤ 20
  · obtain ⟨hla, hlb, hlc⟩ := hlen
    obtain ⟨md, hf0⟩ := fieldOf n h0
    obtain ⟨p0, p1, hr0⟩ := hf0.ref
    have hF0 := fun w => law03_F n w h0 h1
    generalize hfn : n % 2 + 1 = f at *
    have hfb : 1 ≤ f ∧ f ≤ 2 := by omega
    obtain ⟨hfb1, hfb2⟩ := hfb
    have HFN := Lib.hid hfn
    clear hfn
    have HF := Lib.hid hF0
    clear hF0
    go_enter Try.func3, Try.ntmps3
    go_wp2_with fail
    refine (law31_Awake _).mono ?_
    rintro e w1 ⟨rfl, hb1⟩
    go_wp2_with (go_at_call 23; refine (HF.out _).mono ?_; rintro e w' ⟨rfl, rfl⟩)
    refine (law31_someI f md p0 p1 hf0 hr0 _ l l.length 1 1 rfl _ (hl0.later hb1) (by omega) (by omega)).mono ?_
    rintro e w2 ⟨g1, rfl, hB1, hg1, hb2⟩
    have rx := someE_red hf0 l l.length 1
    have lx := someE_length f md l l.length 1
    generalize someE f md l l.length 1 = X at *
    have LX := Lib.hid lx
    clear lx
    go_wp2_with fail
    have hbm : Below w.heap.size w w2 := by repeat (first | exact Below.refl _ _ | with_reducible assumption | (refine bl_alloc ?_ (Nat.le_refl _) _) | (refine bl_set ?_ (by dsimp only; omega) _) | (refine Below.drew ?_) | (refine bl_drewN ?_ _) | (refine bl_call ?_ (Nat.le_refl _) (by assumption)))
    refine (law31_someI f md p0 p1 hf0 hr0 _ mm l.length 1 1 rfl _ (hm0.later hbm) (by omega) (by omega)).mono ?_
    rintro e w3 ⟨g2, rfl, hB2, hg2, hb3⟩
    have ro := someE_red hf0 mm l.length 1
    have lo := someE_length f md mm l.length 1
    generalize someE f md mm l.length 1 = O at *
    have LO := Lib.hid lo
    clear lo
    go_wp2_with fail
    have hbk : Below w.heap.size w w3 := by repeat (first | exact Below.refl _ _ | with_reducible assumption | (refine bl_alloc ?_ (Nat.le_refl _) _) | (refine bl_set ?_ (by dsimp only; omega) _) | (refine Below.drew ?_) | (refine bl_drewN ?_ _) | (refine bl_call ?_ (Nat.le_refl _) (by assumption)))
    refine (law31_someI f md p0 p1 hf0 hr0 _ k l.length 3 3 rfl _ (hk0.later hbk) (by omega) (by omega)).mono ?_
    rintro e w4 ⟨g3, rfl, hB3, hg3, hb4⟩
    have rd := someE_red hf0 k l.length 3
    have ld := someE_length f md k l.length 3
    generalize someE f md k l.length 3 = D at *
    have LD := Lib.hid ld
    clear ld
    have hXD : X.length = D.length := by rw [LX.out, LD.out]
    have hOD : O.length = D.length := by rw [LO.out, LD.out]
    have hX20 : X.length ≤ 20 := by rw [LX.out]; omega
    have sX := SlE.ofB ((hB1.call hb3).call hb4) (by omega) (fun e he => (rx e he).ok hf0)
    have sO := SlE.ofB (hB2.call hb4) (by omega) (fun e he => (ro e he).ok hf0)
    have sD := SlE.ofB hB3 (by omega) (fun e he => (rd e he).ok hf0)
    have HXD := Lib.hid hXD
    have HOD := Lib.hid hOD
    clear hXD hOD
    -- Split(in, drawn)
    go_wp2_with fail
    refine (tape_Split f md hf0 _ _ X D _ sX sD HXD.out (by omega) (allIn_red rx) (allIn_red rd)).mono ?_
    rintro e w5 ⟨u1, v1, rfl, su1, sv1, hb5⟩
    have su1' := su1
    obtain ⟨⟨U1, d1, rfl, _, _, _⟩, _⟩ := su1
    obtain ⟨⟨V1, e1, rfl, _, _, _⟩, _⟩ := sv1
    -- Retape(in, other, drawn)
    have hb6a : Below w5.heap.size w5 (w5.alloc (.cells #[.slice U1 (zipO (· - ·) f md X D).length d1, .slice V1 D.length e1] 28)) := by repeat (first | exact Below.refl _ _ | with_reducible assumption | (refine bl_alloc ?_ (Nat.le_refl _) _) | (refine bl_set ?_ (by dsimp only; omega) _) | (refine Below.drew ?_) | (refine bl_drewN ?_ _) | (refine bl_call ?_ (Nat.le_refl _) (by assumption)))
    have q5 := V2.new w5 (.slice U1 (zipO (· - ·) f md X D).length d1) (.slice V1 D.length e1) 28
    have hb46 : Below w4.heap.size w4 (w5.alloc (.cells #[.slice U1 (zipO (· - ·) f md X D).length d1, .slice V1 D.length e1] 28)) := by repeat (first | exact Below.refl _ _ | with_reducible assumption | (refine bl_alloc ?_ (Nat.le_refl _) _) | (refine bl_set ?_ (by dsimp only; omega) _) | (refine Below.drew ?_) | (refine bl_drewN ?_ _) | (refine bl_call ?_ (Nat.le_refl _) (by assumption)))
    have sX6 := sX.later hb46
    have sO6 := sO.later hb46
    have sD6 := sD.later hb46
    go_wp2_with fail
    refine (tape_Retape f md hf0 _ _ _ X O D _ sX6 sO6 sD6 HXD.out HOD.out (by omega) (allIn_red rx) (allIn_red ro) (allIn_red rd)).mono ?_
    rintro e w6 ⟨g4, rfl, hB4, hg4, hb6⟩
    have rr := zipS_red hf0 O (zipS f md X D)
    have hRl : (zipS f md O (zipS f md X D)).length = D.length := by rw [zipS_length, HOD.out]; rw [zipS_length _ _ _ _ HXD.out, HXD.out, HOD.out]
    have hback : zipS f md O (zipS f md O (zipS f md X D)) = zipS f md X D := zipS_back hf0 _ _ (by rw [HOD.out, zipS_length _ _ _ _ HXD.out, HXD.out]) (zipS_red hf0 X D)
    have hdrawn : zipS f md X (zipS f md X D) = D := zipS_back hf0 _ _ HXD.out rd
    unfold zipS at rr hRl hback hdrawn
    generalize hR : zipO (· - ·) f md O (zipO (· - ·) f md X D) = R at *
    have HRL := Lib.hid hRl
    have HBA := Lib.hid hback
    have HDR := Lib.hid hdrawn
    clear hRl hback hdrawn hR
    have sR := SlE.ofB hB4 (by rw [HRL.out, ← HXD.out]; omega) (fun e he => (rr e he).ok hf0)
    -- Split(other, r)
    have q6 := q5.call hb6
    have sX7 := sX6.later hb6
    have sO7 := sO6.later hb6
    go_wp2_with fail
    refine (tape_Split f md hf0 _ _ O R _ sO7 sR (by rw [HRL.out, HOD.out]) (by rw [HOD.out, ← HXD.out]; omega) (allIn_red ro) (allIn_red rr)).mono ?_
    rintro e w7 ⟨u2, v2, rfl, su2, sv2, hb7⟩
    have su2' := su2
    obtain ⟨⟨U2, d2, rfl, _, _, _⟩, _⟩ := su2
    obtain ⟨⟨V2', e2, rfl, _, _, _⟩, _⟩ := sv2
    -- Retape(other, in, r)
    have q7 := q6.call hb7
    have p7 := V2.new w7 (.slice U2 (zipO (· - ·) f md O R).length d2) (.slice V2' R.length e2) 28
    have hb68 : Below w6.heap.size w6 (w7.alloc (.cells #[.slice U2 (zipO (· - ·) f md O R).length d2, .slice V2' R.length e2] 28)) := by repeat (first | exact Below.refl _ _ | with_reducible assumption | (refine bl_alloc ?_ (Nat.le_refl _) _) | (refine bl_set ?_ (by dsimp only; omega) _) | (refine Below.drew ?_) | (refine bl_drewN ?_ _) | (refine bl_call ?_ (Nat.le_refl _) (by assumption)))
    have q8 := q7.alloc (.cells #[.slice U2 (zipO (· - ·) f md O R).length d2, .slice V2' R.length e2] 28)
    have sX8 := sX7.later hb68
    have sO8 := sO7.later hb68
    have sR8 := sR.later hb68
    go_wp2_with fail
    refine (tape_Retape f md hf0 _ _ _ O X R _ sO8 sX8 sR8 (by rw [HRL.out, HOD.out]) (by rw [HRL.out, HXD.out]) (by rw [HOD.out, ← HXD.out]; omega) (allIn_red ro) (allIn_red rx) (allIn_red rr)).mono ?_
    rintro e w9 ⟨g5, rfl, hB5, hg5, hb9⟩
    have hbF : zipO (· - ·) f md X (zipO (· - ·) f md O R) = D := by
      have e1 := HBA.out
      have e2 := HDR.out
      rw [e1, e2]
    rw [hbF] at hB5
    rw [hbF]
    have sB := SlE.ofB hB5 (by rw [← HXD.out]; omega) (fun e he => (rd e he).ok hf0)
    have hb78 := bl_alloc (Below.refl w7.heap.size w7) (Nat.le_refl _) (.cells #[.slice U2 (zipO (· - ·) f md O R).length d2, .slice V2' R.length e2] 28)
    have hb79 : Below w7.heap.size w7 w9 := hb78.trans (hb9.mono hb78.size)
    have hb68' : Below w5.heap.size w5 w6 := hb6a.trans (hb6.mono hb6a.size)
    have hb57 : Below w5.heap.size w5 w7 := hb68'.trans (hb7.mono hb68'.size)
    have hb59 : Below w5.heap.size w5 w9 := hb57.trans (hb79.mono hb57.size)
    have hb49 : Below w4.heap.size w4 w9 := hb5.trans (hb59.mono hb5.size)
    have t1 := su1'.later hb59
    have t2 := su2'.later hb79
    have tD := sD.later hb49
    obtain ⟨c90, c91, c92, c93, c94⟩ := q8.call hb9
    obtain ⟨d90, d91, d92, d93, d94⟩ := p7.call hb9
    have hfirst := ref_Same_eq _ _ _ _ w9 t1 t2 HBA.out.symm
    have HFI := Lib.hid hfirst
    have HSB := Lib.hid sB
    have HTD := Lib.hid tD
    clear hfirst sB tD t1 t2 hbF
    go_wp2_with fail
    refine HFI.out.mono ?_
    rintro e w10 ⟨rfl, hb10⟩
    have hsecond := ref_Same_eq _ _ _ _ w10 (HSB.out.later hb10) (HTD.out.later hb10) rfl
    go_wp2_with fail
    refine hsecond.mono ?_
    rintro e w11 ⟨rfl, hb11⟩
    go_wp2
    go_ret
    exact ⟨rfl, by repeat (first | exact Below.refl _ _ | with_reducible assumption | (refine bl_alloc ?_ (Nat.le_refl _) _) | (refine bl_set ?_ (by dsimp only; omega) _) | (refine Below.drew ?_) | (refine bl_drewN ?_ _) | (refine bl_call ?_ (Nat.le_refl _) (by assumption)))⟩
  · have hor : 20 < l.length ∨ (l.length ≤ 20 ∧ 20 < mm.length) ∨ (l.length ≤ 20 ∧ mm.length ≤ 20 ∧ 20 < k.length) := by omega
    clear hlen
    rcases hor with h | ⟨h, h'⟩ | ⟨h, h', h''⟩
    · go_enter Try.func3, Try.ntmps3
      go_wp2_with fail
      refine (law31_Awake _).mono ?_
      rintro e w1 ⟨rfl, hb1⟩
      go_wp2
      go_ret
      exact ⟨rfl, by repeat (first | exact Below.refl _ _ | with_reducible assumption | (refine bl_alloc ?_ (Nat.le_refl _) _) | (refine bl_set ?_ (by dsimp only; omega) _) | (refine Below.drew ?_) | (refine bl_drewN ?_ _) | (refine bl_call ?_ (Nat.le_refl _) (by assumption)))⟩
    · go_enter Try.func3, Try.ntmps3
      go_wp2_with fail
      refine (law31_Awake _).mono ?_
      rintro e w1 ⟨rfl, hb1⟩
      go_wp2
      go_ret
      exact ⟨rfl, by repeat (first | exact Below.refl _ _ | with_reducible assumption | (refine bl_alloc ?_ (Nat.le_refl _) _) | (refine bl_set ?_ (by dsimp only; omega) _) | (refine Below.drew ?_) | (refine bl_drewN ?_ _) | (refine bl_call ?_ (Nat.le_refl _) (by assumption)))⟩
    · go_enter Try.func3, Try.ntmps3
      go_wp2_with fail
      refine (law31_Awake _).mono ?_
      rintro e w1 ⟨rfl, hb1⟩
      go_wp2
      go_ret
      exact ⟨rfl, by repeat (first | exact Below.refl _ _ | with_reducible assumption | (refine bl_alloc ?_ (Nat.le_refl _) _) | (refine bl_set ?_ (by dsimp only; omega) _) | (refine Below.drew ?_) | (refine bl_drewN ?_ _) | (refine bl_call ?_ (Nat.le_refl _) (by assumption)))⟩

end Go.Proofs.Ytgambjmjbmdciaa
