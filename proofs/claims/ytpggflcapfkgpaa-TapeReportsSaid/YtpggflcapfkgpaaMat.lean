/-
 TRw: what the statements of this layer share.
-/
import Derived.BigQuiet
import Derived.Test.YtpggflcapfkgpaaMan
import Derived.Test.YtpggflcapfkgpaaMas
namespace Go.Proofs.Ytpggflcapfkgpaa
open Go.RowKit Fm
set_option linter.unusedVariables false
set_option maxRecDepth 100000

set_option maxHeartbeats 16000000 in
theorem walk_TapeReports (k f b l m c p t : Int) (va vb vl vm vk : Value) (us vs : List Int) (ls ms ks : List E) (w : World) (hk : 0 ≤ k ∧ k ≤ 255) (hf : 0 ≤ f ∧ f ≤ 255) (hb : 0 ≤ b ∧ b ≤ 255) (hl : 0 ≤ l ∧ l ≤ 255) (hm : 0 ≤ m ∧ m ≤ 255) (hc : 0 ≤ c ∧ c ≤ 255) (hp : 0 ≤ p ∧ p ≤ 255) (ht : 0 ≤ t ∧ t ≤ 255)
  (hva : SlU w w.heap.size va us) (hvb : SlU w w.heap.size vb vs) (hvl : SlE w w.heap.size vl ls) (hvm : SlE w w.heap.size vm ms) (hvk : SlE w w.heap.size vk ks) :
  Calls Try.prog 3 #[.agg #[.int .u8 k, .int .u8 f, .int .u8 b, .int .u8 l, .int .u8 m, .int .u8 c, .int .u8 p, .int .u8 t], va, vb, vl, vm, vk] w fun e w' => e = .returned (.bool true) ∧ Below w.heap.size w w' := by
 obtain ⟨F, y, s, hF, hy, hs32, hTSK⟩ := law13_Task k f b l m c p t hk hf hb hl hm hc hp ht
 obtain ⟨pq, hpq, hpq1, hpq3⟩ : ∃ q : Nat, 1 + p % 3 = (q : Int) ∧ 1 ≤ q ∧ q ≤ 3 := ⟨(1 + p % 3).toNat, by omega, by omega, by omega⟩
 rw [hpq] at hTSK
 have HTSK := Lib.hid hTSK
 have HAW := Lib.hid law31_Awake
 have hok := hy.ok
 have hcl : y.calls ≤ 511 := by have := hy.calls; omega
 have hni1 := CK.nin_pos hok
 have hnin := hy.nin
 have hal := CK.arity_le hok
 have hN4 := nextP_le (y.calls + 1)
 have hpr : y.proof ≤ 10000 := by
  show y.arity + 2 * (nextP (y.calls + 1) - 1) + 1 ≤ _
  omega
 have HCK : Hid (∀ wz, Calls Try.prog 27 #[.agg #[.int .u8 ((y.k : Nat) : Int), .int .u8 (F : Int), .int .i64 ((y.b : Nat) : Int), .int .i64 ((y.l : Nat) : Int), .int .i64 ((y.m : Nat) : Int), .int .i64 ((y.c : Nat) : Int), .int .i64 (pq : Int), .string s]] wz (RetC 0 wz)) := fun wz => by
  have h := task_Check_of ⟨⟨(y.k : Nat), (F : Nat), (y.b : Nat), (y.l : Nat), (y.m : Nat), (y.c : Nat)⟩, (pq : Nat), s⟩ 0 (fun wz => by
   have h := circuit_Check_ok hF y hok wz
   rwa [CK.code_ok (by omega)] at h) wz
  rw [if_pos rfl, if_neg (by dsimp only; omega)] at h
  exact h
 have HIN : Hid (∀ wz, Calls Try.prog 28 #[y.val F] wz (RetI y.nin wz)) := fun wz => circuit_In F y hok wz
 have HPRF : Hid (∀ wz, Calls Try.prog 8 #[y.val F] wz (RetI y.proof wz)) := fun wz => circuit_Proof hF y hok (by omega) wz
 have HME : Hid (∀ (vx : Value) (us : List Int) wz, SlU w w.heap.size vx us → Below w.heap.size w wz → us.length ≤ 60 → Calls Try.prog 7 #[y.val F, vx] wz fun e w' => ∃ q : List Nat × Option Addr × Nat, e = .returned (.slice q.2.1 q.1.length q.2.2) ∧ (q.1.length = y.meas ∧ okEnc y q.1 ∧ SlU w' w'.heap.size (.slice q.2.1 q.1.length q.2.2) (natsI q.1)) ∧ Below wz.heap.size wz w') :=
  fun vx us wz hs hb h => (law10_Measure hF y hok _ us wz ((hs.below hb).mono hb.size) (by omega)).mono fun e w' ⟨ms, A', cp', h1, h2, he, hs, hb'⟩ => ⟨(ms, A', cp'), he, ⟨h1, h2, hs⟩, hb'⟩
 have HENC : Hid (∀ (ms : List Nat) (vm : Value) wz, Below w.heap.size w wz → ms.length = y.meas → okEnc y ms → SlU wz wz.heap.size vm (natsI ms) → Calls Try.prog 6 #[y.val F, vm] wz fun e w' => ∃ q : Nat × Nat × KL F, e = .returned (.tuple #[.slice (some ⟨q.1, 0, none⟩) y.nin q.2.1, .int .i64 0]) ∧ (q.2.2.length = y.nin ∧ wz.heap.size ≤ q.1 ∧ w'.ownsRow w.heap.size 55 2 (.slice (some ⟨q.1, 0, none⟩) y.nin q.2.1) y.nin (cellsE (esK q.2.2))) ∧ Below wz.heap.size wz w') :=
  fun ms vm wz hbz h1 h2 h3 => by
   refine (circuit_Encode hF y hok hy.calls vm ms wz h3 h1).mono ?_
   rintro e w' (⟨_, v, he, ho, hb'⟩ | ⟨hn, _⟩)
   ·have hlen : ((encL y ms).map (nK F)).length = y.nin := by rw [List.length_map, enc_length h1]
    rw [hlen] at ho
    obtain ⟨g, cp, rfl⟩ := own_sliceQ ho hni1
    have hg := (own_rowA ho).2.2
    exact ⟨(g, cp, _), he, ⟨hlen, hg, own_base ho hbz.size⟩, hb'⟩
   ·exact absurd h2 hn
 have HSO : Hid (∀ (vx : Value) (es : List E) (n st : Nat) wz, SlE w w.heap.size vx es → Below w.heap.size w wz → n ≤ 65536 → st ≤ 16 → Calls Try.prog 9 #[.int .i64 (F : Int), vx, .int .i64 (n : Int), .int .i64 (st : Int)] wz fun e w' => ∃ (g : Nat) (zs : KL F), e = .returned (.slice (some ⟨g, 0, none⟩) n n) ∧ zs.length = n ∧ wz.heap.size ≤ g ∧ BlkE w' g (esK zs) ∧ Below wz.heap.size wz w') :=
  fun vx es n st wz hs hb h1 h2 => (law31_someK hF vx es n st wz ((hs.below hb).mono hb.size) h1 h2).mono fun e w' ⟨g, zs, h1, h2, h3, h4, h5⟩ => ⟨g, zs, h2, h1, h4, h3, h5⟩
 obtain ⟨size, hsize⟩ : ∃ n, y.proof * pq = n := ⟨_, rfl⟩
 have hsz : size ≤ 30000 := by
  have : y.proof * pq ≤ 10000 * 3 := Nat.mul_le_mul hpr hpq3
  omega
 have hwz : IntKind.i64.wrap (((y.proof : Nat) : Int) * (pq : Int)) = ((size : Nat) : Int) := by
  rw [← Int.natCast_mul, hsize]
  exact IntWalk.i64_in _ (by omega)
 have HSP : Hid (∀ (wz : World) (va vb d1 d2 : Value) (a o e1 e2 : KL F), SlK wz wz.heap.size va a → SlK wz wz.heap.size vb o → SlK wz wz.heap.size d1 e1 → SlK wz wz.heap.size d2 e2 → a.length = y.nin → e1.length = y.nin → o.length = size → e2.length = size →
   Calls Try.prog 10 #[.agg #[.int .u8 ((y.k : Nat) : Int), .int .u8 (F : Int), .int .i64 ((y.b : Nat) : Int), .int .i64 ((y.l : Nat) : Int), .int .i64 ((y.m : Nat) : Int), .int .i64 ((y.c : Nat) : Int), .int .i64 (pq : Int), .string s], va, vb, .agg #[d1, d2]] wz fun e w' =>
    ∃ (A1 A2 A3 A4 : Option Addr) (c1 c2 c3 c4 : Nat), e = .returned (.tuple #[.agg #[.slice A1 y.nin c1, .slice A2 y.nin c2, .slice A3 size c3, .slice A4 size c4], .int .i64 0]) ∧
     SlK w' w'.heap.size (.slice A1 y.nin c1) (subL a e1) ∧ SlK w' w'.heap.size (.slice A3 size c3) (subL o e2) ∧ Lo wz.heap.size (.slice A1 y.nin c1) ∧ Lo wz.heap.size (.slice A3 size c3) ∧ Below wz.heap.size wz w') := fun wz va vb d1 d2 a o e1 e2 h1 h2 h3 h4 l1 l2 l3 l4 => by
  have h := tape_SpreadK hF _ _ _ _ _ (pq : Int) s y.proof va vb d1 d2 a o e1 e2 wz HCK (fun wz => by rw [l1]; exact HIN.out wz) HPRF h1 h2 h3 h4 (by rw [l1, l2]) (by rw [l3, l4]) (by rw [l3]; exact hwz) (by omega) (by omega)
  refine h.mono ?_
  rintro e w' ⟨u, v, x, z, rfl, hu, hv, hx, hz, ⟨lu, lv, lx, lz⟩, hb'⟩
  have s1 : (subL a e1).length = y.nin := by unfold subL; rw [List.length_zipWith, l1, l2, Nat.min_self]
  have s2 : (subL o e2).length = size := by unfold subL; rw [List.length_zipWith, l3, l4, Nat.min_self]
  obtain ⟨A1, c1, rfl, _⟩ := id hu
  obtain ⟨A2, c2, rfl, _⟩ := id hv
  obtain ⟨A3, c3, rfl, _⟩ := id hx
  obtain ⟨A4, c4, rfl, _⟩ := id hz
  rw [s1] at hu lu ⊢
  rw [s2] at hx lx ⊢
  rw [l2, l4]
  exact ⟨A1, A2, A3, A4, c1, c2, c3, c4, rfl, hu, hx, lu, lx, hb'⟩
 have HOT : Hid (∀ (wz : World) (va vb vc vd d1 d2 : Value) (a o e1 e2 oa oo : KL F), SlK wz wz.heap.size va a → SlK wz wz.heap.size vb o → SlK wz wz.heap.size vc oa → SlK wz wz.heap.size vd oo → SlK wz wz.heap.size d1 e1 → SlK wz wz.heap.size d2 e2 → a.length = y.nin → e1.length = y.nin → oa.length = y.nin → o.length = size → e2.length = size → oo.length = size →
   Calls Try.prog 11 #[.agg #[.int .u8 ((y.k : Nat) : Int), .int .u8 (F : Int), .int .i64 ((y.b : Nat) : Int), .int .i64 ((y.l : Nat) : Int), .int .i64 ((y.m : Nat) : Int), .int .i64 ((y.c : Nat) : Int), .int .i64 (pq : Int), .string s], va, vb, vc, vd, .agg #[d1, d2]] wz fun e w' =>
    ∃ (A1 A2 : Option Addr) (c1 c2 : Nat), e = .returned (.tuple #[.agg #[.slice A1 y.nin c1, .slice A2 size c2], .int .i64 0]) ∧
     SlK w' w'.heap.size (.slice A1 y.nin c1) (subL oa (subL a e1)) ∧ SlK w' w'.heap.size (.slice A2 size c2) (subL oo (subL o e2)) ∧ Below wz.heap.size wz w') := fun wz va vb vc vd d1 d2 a o e1 e2 oa oo h1 h2 h3 h4 h5 h6 l1 l2 l3 l4 l5 l6 => by
  have h := tape_OtherK hF _ _ _ _ _ (pq : Int) s y.proof va vb vc vd d1 d2 a o e1 e2 oa oo wz HCK (fun wz => by rw [l1]; exact HIN.out wz) HPRF h1 h2 h3 h4 h5 h6 (by rw [l1, l2]) (by rw [l4, l5]) (by rw [l3, l2]) (by rw [l6, l5]) (by rw [l4]; exact hwz) (by omega) (by omega)
  refine h.mono ?_
  rintro e w' ⟨u, v, rfl, hu, hv, hb'⟩
  have s1 : (subL oa (subL a e1)).length = y.nin := by unfold subL; simp only [List.length_zipWith, l1, l2, l3, Nat.min_self]
  have s2 : (subL oo (subL o e2)).length = size := by unfold subL; simp only [List.length_zipWith, l4, l5, l6, Nat.min_self]
  obtain ⟨A1, c1, rfl, _⟩ := id hu
  obtain ⟨A2, c2, rfl, _⟩ := id hv
  rw [s1] at hu ⊢
  rw [s2] at hv ⊢
  exact ⟨A1, A2, c1, c2, rfl, hu, hv, hb'⟩
 have HS9 : Hid (∀ (wz : World) (A A' : Option Addr) (na no c1 c2 : Nat) (d1 d2 : Value), (na ≠ y.nin ∨ (na = y.nin ∧ no ≠ size)) → Calls Try.prog 10 #[.agg #[.int .u8 ((y.k : Nat) : Int), .int .u8 (F : Int), .int .i64 ((y.b : Nat) : Int), .int .i64 ((y.l : Nat) : Int), .int .i64 ((y.m : Nat) : Int), .int .i64 ((y.c : Nat) : Int), .int .i64 (pq : Int), .string s], .slice A na c1, .slice A' no c2, .agg #[d1, d2]] wz fun e w' => e = .returned (.tuple #[.agg #[.slice none 0 0, .slice none 0 0, .slice none 0 0, .slice none 0 0], .int .i64 9]) ∧ Below wz.heap.size wz w') :=
  fun wz A A' na no c1 c2 d1 d2 h => tape_Spread9 hF _ _ _ _ _ (pq : Int) s y.nin y.proof size A A' na no c1 c2 d1 d2 wz HCK HIN HPRF h hwz
 have HO9 : Hid (∀ (wz : World) (va vb vc vd d1 d2 : Value) (a o e1 e2 oo : KL F) (oa : List E), SlK wz wz.heap.size va a → SlK wz wz.heap.size vb o → SlE wz wz.heap.size vc oa → SlK wz wz.heap.size d1 e1 → SlK wz wz.heap.size d2 e2 → a.length = y.nin → e1.length = y.nin → o.length = size → e2.length = size → oa.length ≠ y.nin → AllIn (Pm F : Nat) oa →
   Calls Try.prog 11 #[.agg #[.int .u8 ((y.k : Nat) : Int), .int .u8 (F : Int), .int .i64 ((y.b : Nat) : Int), .int .i64 ((y.l : Nat) : Int), .int .i64 ((y.m : Nat) : Int), .int .i64 ((y.c : Nat) : Int), .int .i64 (pq : Int), .string s], va, vb, vc, vd, .agg #[d1, d2]] wz fun e w' => e = .returned (.tuple #[.agg #[.slice none 0 0, .slice none 0 0], .int .i64 9]) ∧ Below wz.heap.size wz w') :=
  fun wz va vb vc vd d1 d2 a o e1 e2 oo oa h1 h2 h3 h4 h5 l1 l2 l3 l4 l5 io => tape_Other9 hF _ _ _ _ _ (pq : Int) s y.proof va vb vc vd d1 d2 a o e1 e2 oo oa wz HCK (fun wz => by rw [l1]; exact HIN.out wz) HPRF h1 h2 h3 h4 h5 (by rw [l1, l2]) (by rw [l3, l4]) (by rw [l2]; exact l5) io (by rw [l3]; exact hwz) (by omega) (by omega)
 have HSAM : Hid (∀ wz (va vb : Value) (Z : KL F), SlK wz wz.heap.size va Z → SlK wz wz.heap.size vb Z → Calls Try.prog 12 #[va, vb] wz fun e w' => e = .returned (.bool true) ∧ Below wz.heap.size wz w') := fun wz va vb Z h1 h2 => ref_Same_eq va vb (esK Z) (esK Z) wz h1.toE h2.toE rfl
 have HF := Lib.hid hF
 have HUS := Lib.hid hva
 have HVS := Lib.hid hvb
 have HLS := Lib.hid hvl
 have HMS := Lib.hid hvm
 have HKS := Lib.hid hvk
 obtain ⟨⟨A1, c1, rfl, _⟩, _⟩ := hva
 obtain ⟨⟨A2, c2, rfl, _⟩, _⟩ := hvb
 obtain ⟨⟨A3, c3, rfl, _⟩, _⟩ := hvl
 obtain ⟨⟨A4, c4, rfl, _⟩, _⟩ := hvm
 obtain ⟨⟨A5, c5, rfl, _⟩, _⟩ := hvk
 have hFb0 : (1 : Int) ≤ (F : Int) := by rcases hF.or with rfl | rfl <;> omega
 have hFb1 : (F : Int) ≤ 2 := by rcases hF.or with rfl | rfl <;> omega
 have hwF : IntKind.i64.wrap (F : Int) = (F : Int) := IntWalk.i64_in _ (by omega)
 have HOKM : Hid (∀ q : List Nat, okEnc y q ↔ okEnc y q) := fun _ => Iff.rfl
 clear hTSK hsize hpr hN4 hal hcl hok hy hF hs32 hpq hpq1 hpq3 hp ht hk hf hb hl hm hc
 unfold CK.val at HIN HPRF HME HENC
 generalize y.nin = ni at *
 generalize y.proof = tot at *
 generalize ((y.k : Nat) : Int) = yk at *
 generalize ((y.b : Nat) : Int) = yb at *
 generalize ((y.l : Nat) : Int) = yl at *
 generalize ((y.m : Nat) : Int) = ym at *
 generalize ((y.c : Nat) : Int) = yc at *
 have hb00 : Below w.heap.size w w := Below.refl _ _
 go_enter Try.func3, Try.ntmps3
 go_upto_region 1 with fail
 have hs := Vs.new w [.int .u8 k, .int .u8 f, .int .u8 b, .int .u8 l, .int .u8 m, .int .u8 c, .int .u8 p, .int .u8 t] #[.int .u8 k, .int .u8 f, .int .u8 b, .int .u8 l, .int .u8 m, .int .u8 c, .int .u8 p, .int .u8 t] 25 rfl
 have hbA : Below w.heap.size w (w.alloc (.cells #[.int .u8 k, .int .u8 f, .int .u8 b, .int .u8 l, .int .u8 m, .int .u8 c, .int .u8 p, .int .u8 t] 25)) := by repeat (first | exact bA | with_reducible assumption | apply bB)
 replace hb00 := bl_call hb00 (Nat.le_refl _) hbA
 clear hbA
 generalize w.alloc (.cells #[.int .u8 k, .int .u8 f, .int .u8 b, .int .u8 l, .int .u8 m, .int .u8 c, .int .u8 p, .int .u8 t] 25) = w1 at hb00 hs ⊢
 by_cases q1 : 20 < us.length
 ·skip
  go_wp2_with (first
   | (go_at_call 4; refine (HAW.out _).mono ?_; rintro e w2 ⟨rfl, hb2⟩; replace hb00 := bl_call hb00 (Nat.le_refl _) hb2))
  go_ret
  exact ⟨rfl, hb00⟩
 by_cases q2 : 20 < vs.length
 ·skip
  go_wp2_with (first
   | (go_at_call 4; refine (HAW.out _).mono ?_; rintro e w2 ⟨rfl, hb2⟩; replace hb00 := bl_call hb00 (Nat.le_refl _) hb2))
  go_ret
  exact ⟨rfl, hb00⟩
 by_cases q3 : 30 < ls.length
 ·skip
  go_wp2_with (first
   | (go_at_call 4; refine (HAW.out _).mono ?_; rintro e w2 ⟨rfl, hb2⟩; replace hb00 := bl_call hb00 (Nat.le_refl _) hb2))
  go_ret
  exact ⟨rfl, hb00⟩
 by_cases q4 : 30 < ms.length
 ·skip
  go_wp2_with (first
   | (go_at_call 4; refine (HAW.out _).mono ?_; rintro e w2 ⟨rfl, hb2⟩; replace hb00 := bl_call hb00 (Nat.le_refl _) hb2))
  go_ret
  exact ⟨rfl, hb00⟩
 by_cases q5 : 30 < ks.length
 ·skip
  go_wp2_with (first
   | (go_at_call 4; refine (HAW.out _).mono ?_; rintro e w2 ⟨rfl, hb2⟩; replace hb00 := bl_call hb00 (Nat.le_refl _) hb2))
  go_ret
  exact ⟨rfl, hb00⟩
 obtain ⟨⟨s0, s1, s2, s3, s4, s5, s6, s7⟩, ⟨s8, s9, s10, s11, s12, s13, s14, s15⟩, s16⟩ := hs.get8
 go_upto_region 5 with (first
  | (go_at_call 4; refine (HAW.out _).mono ?_; rintro e w2 ⟨rfl, hb2⟩; replace hb00 := bl_call hb00 (Nat.le_refl _) hb2; replace hs := hs.call hb2; clear s0 s1 s2 s3 s4 s5 s6 s7 s8 s9 s10 s11 s12 s13 s14 s15 s16; clear hb2; obtain ⟨⟨s0, s1, s2, s3, s4, s5, s6, s7⟩, ⟨s8, s9, s10, s11, s12, s13, s14, s15⟩, s16⟩ := hs.get8))
 go_upto_region 6 with (first
  | (go_at_call 5; refine (HTSK.out _).mono ?_; rintro e w3 ⟨rfl, hb3⟩; replace hb00 := bl_call hb00 (Nat.le_refl _) hb3; replace hs := hs.call hb3; clear s0 s1 s2 s3 s4 s5 s6 s7 s8 s9 s10 s11 s12 s13 s14 s15 s16; clear hb3; obtain ⟨⟨s0, s1, s2, s3, s4, s5, s6, s7⟩, ⟨s8, s9, s10, s11, s12, s13, s14, s15⟩, s16⟩ := hs.get8))
 clear s0 s1 s2 s3 s4 s5 s6 s7 s8 s9 s10 s11 s12 s13 s14 s15 s16
 have hu20 : us.length ≤ 60 := by omega
 have hv20 : vs.length ≤ 60 := by omega
 clear q1 q2 q3 q4 q5 hs HTSK HAW
 have hT := Vs.new w3 [.int .u8 yk, .int .u8 (F : Int), .int .i64 yb, .int .i64 yl, .int .i64 ym, .int .i64 yc, .int .i64 (pq : Int), .string s] #[.int .u8 yk, .int .u8 (F : Int), .int .i64 yb, .int .i64 yl, .int .i64 ym, .int .i64 yc, .int .i64 (pq : Int), .string s] 34 rfl
 have hbA : Below w3.heap.size w3 (w3.alloc (.cells #[.int .u8 yk, .int .u8 (F : Int), .int .i64 yb, .int .i64 yl, .int .i64 ym, .int .i64 yc, .int .i64 (pq : Int), .string s] 34)) := by repeat (first | exact bA | with_reducible assumption | apply bB)
 replace hb00 := bl_call hb00 (Nat.le_refl _) hbA
 clear hbA
 generalize w3.alloc (.cells #[.int .u8 yk, .int .u8 (F : Int), .int .i64 yb, .int .i64 yl, .int .i64 ym, .int .i64 yc, .int .i64 (pq : Int), .string s] 34) = w4 at hb00 hT ⊢
 obtain ⟨tb, htbe⟩ : ∃ z, w3.heap.size = z := ⟨_, rfl⟩
 rw [htbe] at hT
 simp only [htbe]
 clear htbe
 obtain ⟨⟨T0, T1, T2, T3, T4, T5, T6, T7⟩, ⟨T8, T9, T10, T11, T12, T13, T14, T15⟩, T16⟩ := hT.get8
 go_upto_region 7 with fail
 clear T0 T1 T2 T3 T4 T5 T6 T7 T8 T9 T10 T11 T12 T13 T14 T15 T16
 have hY := Vs.new w4 [.int .u8 yk, .int .u8 (F : Int), .int .i64 yb, .int .i64 yl, .int .i64 ym, .int .i64 yc] #[.int .u8 yk, .int .u8 (F : Int), .int .i64 yb, .int .i64 yl, .int .i64 ym, .int .i64 yc] 32 rfl
 have hbA : Below w4.heap.size w4 (w4.alloc (.cells #[.int .u8 yk, .int .u8 (F : Int), .int .i64 yb, .int .i64 yl, .int .i64 ym, .int .i64 yc] 32)) := by repeat (first | exact bA | with_reducible assumption | apply bB)
 replace hb00 := bl_call hb00 (Nat.le_refl _) hbA
 replace hT := hT.call hbA
 clear hbA
 generalize w4.alloc (.cells #[.int .u8 yk, .int .u8 (F : Int), .int .i64 yb, .int .i64 yl, .int .i64 ym, .int .i64 yc] 32) = w5 at hb00 hT hY ⊢
 obtain ⟨⟨Y0, Y1, Y2, Y3, Y4, Y5⟩, ⟨Y6, Y7, Y8, Y9, Y10, Y11⟩, Y12⟩ := hY.get6
 go_upto_region 8 with fail
 have ltb := hT.lt
 refine region_G (n := 9) (m := 10) (f := 9) (by kernel_rfl) (by kernel_rfl) rfl ?_
 refine WpG.vD 0 (some 69) ?_ rfl rfl (by kernel_rfl) (fun _ _ _ h => h) rfl (fun wz hwz => ?_) ?_
 rotate_left
 ·(obtain ⟨hcz, hfz⟩ := bcell (hwz); go_simp; try (with_reducible rfl))
 simp only [Zp, Zq, Zr, Zs]
 refine WpG.vD 1 (some 70) ?_ rfl rfl (by kernel_rfl) (fun _ _ _ h => h) rfl (fun wz hwz => ?_) ?_
 rotate_left
 ·(obtain ⟨hcz, hfz⟩ := bcell (hwz); go_simp; try (with_reducible rfl))
 simp only [Zp, Zq, Zr, Zs]
 refine WpG.vD 2 (some 71) ?_ rfl rfl (by kernel_rfl) (fun _ _ _ h => h) rfl (fun wz hwz => ?_) ?_
 rotate_left
 ·go_simp; try (with_reducible rfl)
 simp only [Zp, Zq, Zr, Zs]
 refine WpG.oneD 3 (some 72) rfl rfl (by kernel_rfl) (fun q : List Nat × Option Addr × Nat => Value.slice q.2.1 q.1.length q.2.2) (fun q wz => q.1.length = y.meas ∧ okEnc y q.1 ∧ SlU wz wz.heap.size (.slice q.2.1 q.1.length q.2.2) (natsI q.1)) (fun _ _ _ h hb => ⟨h.1, h.2.1, h.2.2.later hb⟩) (Fresh.call rfl (fun wz hwz => HME.out _ us wz HUS.out (bl_call hb00 (Nat.le_refl _) (hwz)) hu20) (fun wz hwz => by go_simp; try (with_reducible rfl))) (fun mq w0m hw0m hR0m => ?_)
 simp only [Zp, Zq, Zr, Zs]
 refine WpG.oneD 4 (some 73) rfl rfl (by kernel_rfl) (fun q : Nat × Nat × KL F => Value.tuple #[.slice (some ⟨q.1, 0, none⟩) ni q.2.1, .int .i64 0]) (fun q wz => q.2.2.length = ni ∧ w5.heap.size ≤ q.1 ∧ wz.ownsRow w.heap.size 55 2 (.slice (some ⟨q.1, 0, none⟩) ni q.2.1) ni (cellsE (esK q.2.2))) (fun _ _ _ h hb => ⟨h.1, h.2.1, own_call h.2.2 hb⟩) (Fresh.call rfl (fun wz hwz => (HENC.out mq.1 (.slice mq.2.1 mq.1.length mq.2.2) wz (bl_call hb00 (Nat.le_refl _) (hwz.1)) (hwz.2).1 (hwz.2).2.1 (hwz.2).2.2).mono fun e w' ⟨q, h1, ⟨h2, h3, h4⟩, h5⟩ => ⟨q, h1, ⟨h2, Nat.le_trans (hwz.1).size h3, h4⟩, h5⟩) (fun wz hwz => by go_simp; try (with_reducible rfl))) (fun qi w0i hw0i hR0i => ?_)
 simp only [Zp, Zq, Zr, Zs]
 refine WpG.vD 5 (some 68) ?_ rfl rfl (by kernel_rfl) (fun _ _ _ h => h) rfl (fun wz hwz => ?_) ?_
 rotate_left
 ·go_simp; try (with_reducible rfl)
 simp only [Zp, Zq, Zr, Zs]
 refine WpG.vD 6 (some 74) ?_ rfl rfl (by kernel_rfl) (fun _ _ _ h => h) rfl (fun wz hwz => ?_) ?_
 rotate_left
 ·go_simp; try (with_reducible rfl)
 simp only [Zp, Zq, Zr, Zs]
 refine WpG.vD 7 (some 75) ?_ rfl rfl (by kernel_rfl) (fun _ _ _ h => h) rfl (fun wz hwz => ?_) ?_
 rotate_left
 ·go_simp; try (with_reducible rfl)
 simp only [Zp, Zq, Zr, Zs]
 refine WpG.vD 8 (some 16) ?_ rfl rfl (by kernel_rfl) (fun _ _ _ h => h) rfl (fun wz hwz => ?_) ?_
 rotate_left
 ·go_simp; try (with_reducible rfl)
 simp only [Zp, Zq, Zr, Zs]
 refine WpG.done (by kernel_rfl) (fun w6 hS => ?_)
 (try simp only [List.drop_succ_cons]); (try simp only [List.drop_zero]); (try simp only [Nat.reduceSub]); (try simp only [List.take_succ_cons]); (try simp only [List.take_zero])
 obtain ⟨⟨hb6, _, _, _⟩, hal, hgi, hoi⟩ := hS
 obtain ⟨gi, ci, a⟩ := qi
 try dsimp only at hal hgi hoi ⊢
 clear Y0 Y1 Y2 Y3 Y4 Y5 Y6 Y7 Y8 Y9 Y10 Y11 Y12
 replace hb00 := bl_call hb00 (Nat.le_refl _) hb6
 replace hT := hT.call hb6
 replace hY := hY.call hb6
 clear hb6
 have hgi6 := (own_rowA hoi).2.1
 have hti : tb < gi := by omega
 have HAL := Lib.hid hal
 clear hal hgi ltb
 obtain ⟨⟨Y0, Y1, Y2, Y3, Y4, Y5⟩, ⟨Y6, Y7, Y8, Y9, Y10, Y11⟩, Y12⟩ := hY.get6
 go_upto_region 9 with fail
 refine region_G (n := 9) (m := 10) (f := 9) (by kernel_rfl) (by kernel_rfl) rfl ?_
 refine WpG.vD 0 (some 77) ?_ rfl rfl (by kernel_rfl) (fun _ _ _ h => h) rfl (fun wz hwz => ?_) ?_
 rotate_left
 ·(obtain ⟨hcz, hfz⟩ := bcell (hwz); go_simp; try (with_reducible rfl))
 simp only [Zp, Zq, Zr, Zs]
 refine WpG.vD 1 (some 78) ?_ rfl rfl (by kernel_rfl) (fun _ _ _ h => h) rfl (fun wz hwz => ?_) ?_
 rotate_left
 ·(obtain ⟨hcz, hfz⟩ := bcell (hwz); go_simp; try (with_reducible rfl))
 simp only [Zp, Zq, Zr, Zs]
 refine WpG.vD 2 (some 79) ?_ rfl rfl (by kernel_rfl) (fun _ _ _ h => h) rfl (fun wz hwz => ?_) ?_
 rotate_left
 ·go_simp; try (with_reducible rfl)
 simp only [Zp, Zq, Zr, Zs]
 refine WpG.oneD 3 (some 80) rfl rfl (by kernel_rfl) (fun q : List Nat × Option Addr × Nat => Value.slice q.2.1 q.1.length q.2.2) (fun q wz => q.1.length = y.meas ∧ okEnc y q.1 ∧ SlU wz wz.heap.size (.slice q.2.1 q.1.length q.2.2) (natsI q.1)) (fun _ _ _ h hb => ⟨h.1, h.2.1, h.2.2.later hb⟩) (Fresh.call rfl (fun wz hwz => HME.out _ vs wz HVS.out (bl_call hb00 (Nat.le_refl _) (hwz)) hv20) (fun wz hwz => by go_simp; try (with_reducible rfl))) (fun mq w0m hw0m hR0m => ?_)
 simp only [Zp, Zq, Zr, Zs]
 refine WpG.oneD 4 (some 81) rfl rfl (by kernel_rfl) (fun q : Nat × Nat × KL F => Value.tuple #[.slice (some ⟨q.1, 0, none⟩) ni q.2.1, .int .i64 0]) (fun q wz => q.2.2.length = ni ∧ w6.heap.size ≤ q.1 ∧ wz.ownsRow w.heap.size 55 2 (.slice (some ⟨q.1, 0, none⟩) ni q.2.1) ni (cellsE (esK q.2.2))) (fun _ _ _ h hb => ⟨h.1, h.2.1, own_call h.2.2 hb⟩) (Fresh.call rfl (fun wz hwz => (HENC.out mq.1 (.slice mq.2.1 mq.1.length mq.2.2) wz (bl_call hb00 (Nat.le_refl _) (hwz.1)) (hwz.2).1 (hwz.2).2.1 (hwz.2).2.2).mono fun e w' ⟨q, h1, ⟨h2, h3, h4⟩, h5⟩ => ⟨q, h1, ⟨h2, Nat.le_trans (hwz.1).size h3, h4⟩, h5⟩) (fun wz hwz => by go_simp; try (with_reducible rfl))) (fun qi w0i hw0i hR0i => ?_)
 simp only [Zp, Zq, Zr, Zs]
 refine WpG.vD 5 (some 76) ?_ rfl rfl (by kernel_rfl) (fun _ _ _ h => h) rfl (fun wz hwz => ?_) ?_
 rotate_left
 ·go_simp; try (with_reducible rfl)
 simp only [Zp, Zq, Zr, Zs]
 refine WpG.vD 6 (some 82) ?_ rfl rfl (by kernel_rfl) (fun _ _ _ h => h) rfl (fun wz hwz => ?_) ?_
 rotate_left
 ·go_simp; try (with_reducible rfl)
 simp only [Zp, Zq, Zr, Zs]
 refine WpG.vD 7 (some 83) ?_ rfl rfl (by kernel_rfl) (fun _ _ _ h => h) rfl (fun wz hwz => ?_) ?_
 rotate_left
 ·go_simp; try (with_reducible rfl)
 simp only [Zp, Zq, Zr, Zs]
 refine WpG.vD 8 (some 18) ?_ rfl rfl (by kernel_rfl) (fun _ _ _ h => h) rfl (fun wz hwz => ?_) ?_
 rotate_left
 ·go_simp; try (with_reducible rfl)
 simp only [Zp, Zq, Zr, Zs]
 refine WpG.done (by kernel_rfl) (fun w7 hS => ?_)
 (try simp only [List.drop_succ_cons]); (try simp only [List.drop_zero]); (try simp only [Nat.reduceSub]); (try simp only [List.take_succ_cons]); (try simp only [List.take_zero])
 obtain ⟨⟨hb7, _, _, _⟩, hbl, hgo, hoo⟩ := hS
 obtain ⟨go, co, oa⟩ := qi
 try dsimp only at hbl hgo hoo ⊢
 clear Y0 Y1 Y2 Y3 Y4 Y5 Y6 Y7 Y8 Y9 Y10 Y11 Y12
 replace hb00 := bl_call hb00 (Nat.le_refl _) hb7
 replace hT := hT.call hb7
 replace hY := hY.call hb7
 replace hoi := own_call hoi hb7
 clear hb7
 have hgo7 := (own_rowA hoo).2.1
 have hio : gi < go := by omega
 have HBL := Lib.hid hbl
 clear hbl hgo hgi6 HME HENC HUS HVS hu20 hv20
 have h7 : Below w7.heap.size w7 w7 := Below.refl _ _
 obtain ⟨⟨T0, T1, T2, T3, T4, T5, T6, T7⟩, ⟨T8, T9, T10, T11, T12, T13, T14, T15⟩, T16⟩ := hT.get8
 obtain ⟨⟨Y0, Y1, Y2, Y3, Y4, Y5⟩, ⟨Y6, Y7, Y8, Y9, Y10, Y11⟩, Y12⟩ := hY.get6
 go_upto_region 10 with fail
 refine region_B (n := 5) (m := 6) (f := 5) (by kernel_rfl) (by kernel_rfl) rfl ?_
 refine WpH.vD 0 (some 84) ?_ rfl rfl (by kernel_rfl) (fun _ _ _ h => h) rfl (fun wz hwz => ?_) ?_
 rotate_left
 ·(obtain ⟨hcz, hfz⟩ := bcell hwz; go_simp; try (with_reducible rfl))
 simp only [Zp, Zq, Zr, Zs]
 refine WpH.takeD 1 (some 85) rfl rfl (by kernel_rfl) (fun _ _ _ h => h) (.call rfl (fun wz hwz => HPRF.out wz) (fun wz hwz => ?_)) ?_
 ·go_simp; try (with_reducible rfl)
 simp only [Zp, Zq, Zr, Zs]
 refine WpH.vD 2 (some 86) ?_ rfl rfl (by kernel_rfl) (fun _ _ _ h => h) rfl (fun wz hwz => ?_) ?_
 rotate_left
 ·go_simp; try (with_reducible rfl)
 simp only [Zp, Zq, Zr, Zs]
 refine WpH.vD 3 (some 87) ?_ rfl rfl (by kernel_rfl) (fun _ _ _ h => h) rfl (fun wz hwz => ?_) ?_
 rotate_left
 ·(obtain ⟨hcz, hfz⟩ := bcell hwz; go_simp; try (with_reducible rfl))
 simp only [Zp, Zq, Zr, Zs]
 refine WpH.vD 4 (some 88) ?_ rfl rfl (by kernel_rfl) (fun _ _ _ h => h) rfl (fun wz hwz => ?_) ?_
 rotate_left
 ·go_simp; try (with_reducible rfl)
 simp only [Zp, Zq, Zr, Zs]
 refine WpH.doneB (by kernel_rfl) (fun w8 hw8 => ?_)
 (try simp only [List.drop_succ_cons]); (try simp only [List.drop_zero]); (try simp only [Nat.reduceSub]); (try simp only [List.take_succ_cons]); (try simp only [List.take_zero])
 clear T0 T1 T2 T3 T4 T5 T6 T7 T8 T9 T10 T11 T12 T13 T14 T15 T16 Y0 Y1 Y2 Y3 Y4 Y5 Y6 Y7 Y8 Y9 Y10 Y11 Y12
 replace hb00 := bl_call hb00 (Nat.le_refl _) hw8
 replace h7 := bl_call h7 (Nat.le_refl _) hw8
 replace hT := hT.call hw8
 replace hY := hY.call hw8
 replace hoi := own_call hoi hw8
 replace hoo := own_call hoo hw8
 clear hw8
 have h65 : size ≤ 65536 := by omega
 have h66 : ni ≤ 65536 := by omega
 have h16a : 1 ≤ 16 := by decide
 have h16b : 2 ≤ 16 := by decide
 have h16c : 3 ≤ 16 := by decide
 have hs8 := h7.size
 have hwi : w.heap.size ≤ gi := (own_rowA hoi).2.2
 have HCA := Lib.hid (own_capA hoi)
 have hflag : True := trivial
 go_upto_region 12 with (first
  | (go_at_call 9; clear hflag; refine (HSO.out _ ls size 1 _ HLS.out hb00 h65 h16a).mono ?_; rintro e w9 ⟨gp, pr, rfl, hpl, hgp, hBP, hb9⟩; replace hb00 := bl_call hb00 (Nat.le_refl _) hb9; replace h7 := bl_call h7 (Nat.le_refl _) hb9; replace hT := hT.call hb9; replace hoi := own_call hoi hb9; replace hoo := own_call hoo hb9)
  | (go_at_call 9; refine (HSO.out _ ms size 2 _ HMS.out hb00 h65 h16b).mono ?_; rintro e w10 ⟨gq, qr, rfl, hql, hgq, hBQ, hb10⟩; replace hb00 := bl_call hb00 (Nat.le_refl _) hb10; replace h7 := bl_call h7 (Nat.le_refl _) hb10; replace hT := hT.call hb10; replace hoi := own_call hoi hb10; replace hoo := own_call hoo hb10; replace hBP := hBP.call hb10))
 have HPL := Lib.hid hpl
 have HQL := Lib.hid hql
 have hs9 := hb9.size
 have hs10 := h7.size
 have lgp : w7.heap.size ≤ gp := by omega
 have lgq : w7.heap.size ≤ gq := by omega
 have lp10 := hBP.lt
 clear hpl hql hgp hgq hb9 hb10 hs8 hs9 hY HLS HMS
 have hflag : True := trivial
 go_upto_region 13 with (first
  | (go_at_call 9; clear hflag; refine (HSO.out _ ks ni 1 _ HKS.out hb00 h66 h16a).mono ?_; rintro e w11 ⟨g1, e1, rfl, h1l, hg1, hB1, hb11⟩; replace hb00 := bl_call hb00 (Nat.le_refl _) hb11; replace h7 := bl_call h7 (Nat.le_refl _) hb11; replace hT := hT.call hb11; replace hoi := own_call hoi hb11; replace hoo := own_call hoo hb11; replace hBP := hBP.call hb11; replace hBQ := hBQ.call hb11)
  | (go_at_call 9; refine (HSO.out _ ks size 3 _ HKS.out hb00 h65 h16c).mono ?_; rintro e w12 ⟨g2, e2, rfl, h2l, hg2, hB2, hb12⟩; replace hb00 := bl_call hb00 (Nat.le_refl _) hb12; replace h7 := bl_call h7 (Nat.le_refl _) hb12; replace hT := hT.call hb12; replace hoi := own_call hoi hb12; replace hoo := own_call hoo hb12; replace hBP := hBP.call hb12; replace hBQ := hBQ.call hb12; replace hB1 := hB1.call hb12))
 have H1L := Lib.hid h1l
 have H2L := Lib.hid h2l
 have hs11 := hb11.size
 have hs12 := h7.size
 have lg1 : w7.heap.size ≤ g1 := by omega
 have lg2 : w7.heap.size ≤ g2 := by omega
 have lpg1 : gp < g1 := by omega
 have lpg2 : gp < g2 := by omega
 have lpd := hBP.lt
 clear h1l h2l hg1 hg2 hb11 hb12 hs10 hs11 HKS HSO h65 h66 h16a h16b h16c lp10
 have hD := V2.new w12 (.slice (some ⟨g1, 0, none⟩) ni ni) (.slice (some ⟨g2, 0, none⟩) size size) 44
 have hbA : Below w12.heap.size w12 (w12.alloc (.cells #[.slice (some ⟨g1, 0, none⟩) ni ni, .slice (some ⟨g2, 0, none⟩) size size] 44)) := by repeat (first | exact bA | with_reducible assumption | apply bB)
 replace hb00 := bl_call hb00 (Nat.le_refl _) hbA
 replace h7 := bl_call h7 (Nat.le_refl _) hbA
 replace hT := hT.call hbA
 replace hoi := own_call hoi hbA
 replace hoo := own_call hoo hbA
 replace hBP := hBP.call hbA
 replace hBQ := hBQ.call hbA
 replace hB1 := hB1.call hbA
 replace hB2 := hB2.call hbA
 clear hbA
 generalize w12.alloc (.cells #[.slice (some ⟨g1, 0, none⟩) ni ni, .slice (some ⟨g2, 0, none⟩) size size] 44) = w13 at hb00 h7 hT hoi hoo hBP hBQ hB1 hB2 hD ⊢
 obtain ⟨db, hdbe⟩ : ∃ z, w12.heap.size = z := ⟨_, rfl⟩
 rw [hdbe] at hD hs12 lpd
 simp only [hdbe]
 clear hdbe
 obtain ⟨n13, hn13⟩ : ∃ z, w13.heap.size = z := ⟨_, rfl⟩
 have h713 := h7.size
 rw [hn13] at h713
 have hp13 := hBP.lt
 rw [hn13] at hp13
 have h13 : Below w13.heap.size w13 w13 := Below.refl _ _
 have hin := own_sl HAL.out hoi
 have hpr := hBP.slN HPL.out (by omega)
 have hd1 := hB1.slN H1L.out (by omega)
 have hd2 := hB2.slN H2L.out (by omega)
 have HC13 := Lib.hid (HSP.out w13 _ _ _ _ a pr e1 e2 hin hpr hd1 hd2 HAL.out H1L.out HPL.out H2L.out)
 clear hin hpr hd1 hd2
 obtain ⟨⟨T0, T1, T2, T3, T4, T5, T6, T7⟩, ⟨T8, T9, T10, T11, T12, T13, T14, T15⟩, T16⟩ := hT.get8
 obtain ⟨D0, D1, D2, D3, D4⟩ := V2.mk hD.c0 hD.c1 hD.f0 hD.f1 hD.lt
 go_upto_region 14 with (go_at_call 10; refine HC13.out.mono ?_; rintro e w14 ⟨xa, xb, xc, xd, ca, cb, cc, cd, rfl, hu, hx, lu, lx, hb14⟩)
 clear T0 T1 T2 T3 T4 T5 T6 T7 T8 T9 T10 T11 T12 T13 T14 T15 T16 D0 D1 D2 D3 D4
 have LU := Lib.hid (lu.mono (Nat.le_of_eq hn13.symm))
 have LX := Lib.hid (lx.mono (Nat.le_of_eq hn13.symm))
 replace hb00 := bl_call hb00 (Nat.le_refl _) hb14
 replace h7 := bl_call h7 (Nat.le_refl _) hb14
 replace hT := hT.call hb14
 replace hoi := own_call hoi hb14
 replace hoo := own_call hoo hb14
 replace hBP := hBP.call hb14
 replace hBQ := hBQ.call hb14
 replace hB1 := hB1.call hb14
 replace hB2 := hB2.call hb14
 replace hD := hD.call hb14
 replace h13 := bl_call h13 (Nat.le_refl _) hb14
 clear lu lx hb14 HC13
 have hs14 := h13.size
 rw [hn13] at hs14
 have hX := Vs.new w14 [.slice xa ni ca, .slice xb ni cb, .slice xc size cc, .slice xd size cd] #[.slice xa ni ca, .slice xb ni cb, .slice xc size cc, .slice xd size cd] 48 rfl
 have hbA : Below w14.heap.size w14 (w14.alloc (.cells #[.slice xa ni ca, .slice xb ni cb, .slice xc size cc, .slice xd size cd] 48)) := by repeat (first | exact bA | with_reducible assumption | apply bB)
 replace hb00 := bl_call hb00 (Nat.le_refl _) hbA
 replace h7 := bl_call h7 (Nat.le_refl _) hbA
 replace h13 := bl_call h13 (Nat.le_refl _) hbA
 replace hT := hT.call hbA
 replace hoi := own_call hoi hbA
 replace hoo := own_call hoo hbA
 replace hBP := hBP.call hbA
 replace hBQ := hBQ.call hbA
 replace hB1 := hB1.call hbA
 replace hB2 := hB2.call hbA
 replace hD := hD.call hbA
 replace hu := hu.later hbA
 replace hx := hx.later hbA
 clear hbA
 generalize w14.alloc (.cells #[.slice xa ni ca, .slice xb ni cb, .slice xc size cc, .slice xd size cd] 48) = w15 at hb00 h7 h13 hT hoi hoo hBP hBQ hB1 hB2 hD hu hx hX ⊢
 obtain ⟨xk, hxke⟩ : ∃ z, w14.heap.size = z := ⟨_, rfl⟩
 rw [hxke] at hX hs14
 simp only [hxke]
 clear hxke
 have hin := own_sl HAL.out hoi
 have hot := own_sl HBL.out hoo
 have hpr := hBP.slN HPL.out (by omega)
 have hqr := hBQ.slN HQL.out (by omega)
 have hd1 := hB1.slN H1L.out (by omega)
 have hd2 := hB2.slN H2L.out (by omega)
 have HC15 := Lib.hid (HOT.out w15 _ _ _ _ _ _ a pr e1 e2 oa qr hin hpr hot hqr hd1 hd2 HAL.out H1L.out HBL.out HPL.out H2L.out HQL.out)
 clear hin hot hpr hqr hd1 hd2
 obtain ⟨⟨T0, T1, T2, T3, T4, T5, T6, T7⟩, ⟨T8, T9, T10, T11, T12, T13, T14, T15⟩, T16⟩ := hT.get8
 obtain ⟨D0, D1, D2, D3, D4⟩ := V2.mk hD.c0 hD.c1 hD.f0 hD.f1 hD.lt
 go_upto_region 15 with (go_at_call 11; refine HC15.out.mono ?_; rintro e w16 ⟨ya, yb9, cy, cz, rfl, hr1, hr2, hb16⟩)
 clear T0 T1 T2 T3 T4 T5 T6 T7 T8 T9 T10 T11 T12 T13 T14 T15 T16 D0 D1 D2 D3 D4
 replace hb00 := bl_call hb00 (Nat.le_refl _) hb16
 replace h7 := bl_call h7 (Nat.le_refl _) hb16
 replace h13 := bl_call h13 (Nat.le_refl _) hb16
 replace hT := hT.call hb16
 replace hoi := own_call hoi hb16
 replace hoo := own_call hoo hb16
 replace hBP := hBP.call hb16
 replace hBQ := hBQ.call hb16
 replace hB1 := hB1.call hb16
 replace hB2 := hB2.call hb16
 replace hD := hD.call hb16
 replace hu := hu.later hb16
 replace hx := hx.later hb16
 replace hX := hX.call hb16
 clear hb16 HC15
 have hR := V2.new w16 (.slice ya ni cy) (.slice yb9 size cz) 44
 have hbA : Below w16.heap.size w16 (w16.alloc (.cells #[.slice ya ni cy, .slice yb9 size cz] 44)) := by repeat (first | exact bA | with_reducible assumption | apply bB)
 replace hb00 := bl_call hb00 (Nat.le_refl _) hbA
 replace h7 := bl_call h7 (Nat.le_refl _) hbA
 replace h13 := bl_call h13 (Nat.le_refl _) hbA
 replace hT := hT.call hbA
 replace hoi := own_call hoi hbA
 replace hoo := own_call hoo hbA
 replace hBP := hBP.call hbA
 replace hBQ := hBQ.call hbA
 replace hB1 := hB1.call hbA
 replace hB2 := hB2.call hbA
 replace hD := hD.call hbA
 replace hu := hu.later hbA
 replace hx := hx.later hbA
 replace hX := hX.call hbA
 replace hr1 := hr1.later hbA
 replace hr2 := hr2.later hbA
 clear hbA
 generalize w16.alloc (.cells #[.slice ya ni cy, .slice yb9 size cz] 44) = w17 at hb00 h7 h13 hT hoi hoo hBP hBQ hB1 hB2 hD hu hx hX hr1 hr2 hR ⊢
 have h717 := h13.size
 rw [hn13] at h717
 have hot := own_sl HBL.out hoo
 have hqr := hBQ.slN HQL.out (by omega)
 have hl1 : (subL oa (subL a e1)).length = ni := by unfold subL; simp only [List.length_zipWith, HAL.out, H1L.out, HBL.out, Nat.min_self]
 have hl2 : (subL qr (subL pr e2)).length = size := by unfold subL; simp only [List.length_zipWith, HPL.out, H2L.out, HQL.out, Nat.min_self]
 have HB1 : Hid (subL oa (subL oa (subL a e1)) = subL a e1) := subL_back oa (subL a e1) (by unfold subL; simp only [List.length_zipWith, HAL.out, H1L.out, HBL.out, Nat.min_self])
 have HB2 : Hid (subL qr (subL qr (subL pr e2)) = subL pr e2) := subL_back qr (subL pr e2) (by unfold subL; simp only [List.length_zipWith, HPL.out, H2L.out, HQL.out, Nat.min_self])
 have HC17 := Lib.hid (HSP.out w17 _ _ _ _ oa qr _ _ hot hqr hr1 hr2 HBL.out hl1 HQL.out hl2)
 rw [HB1.out, HB2.out] at HC17
 clear hot hqr hl1 hl2 HB1 HB2
 obtain ⟨⟨T0, T1, T2, T3, T4, T5, T6, T7⟩, ⟨T8, T9, T10, T11, T12, T13, T14, T15⟩, T16⟩ := hT.get8
 obtain ⟨R0, R1, R2, R3, R4⟩ := V2.mk hR.c0 hR.c1 hR.f0 hR.f1 hR.lt
 go_upto_region 16 with (go_at_call 10; refine HC17.out.mono ?_; rintro e w18 ⟨za, zb, zc, zd, da, db9, dc, dd, rfl, hu3, hx3, lu3, lx3, hb18⟩)
 clear T0 T1 T2 T3 T4 T5 T6 T7 T8 T9 T10 T11 T12 T13 T14 T15 T16 R0 R1 R2 R3 R4
 have LU3 := Lib.hid (lu3.mono h717)
 have LX3 := Lib.hid (lx3.mono h717)
 clear hr1 hr2 hR
 replace hb00 := bl_call hb00 (Nat.le_refl _) hb18
 replace h7 := bl_call h7 (Nat.le_refl _) hb18
 replace h13 := bl_call h13 (Nat.le_refl _) hb18
 replace hT := hT.call hb18
 replace hoi := own_call hoi hb18
 replace hoo := own_call hoo hb18
 replace hBP := hBP.call hb18
 replace hBQ := hBQ.call hb18
 replace hB1 := hB1.call hb18
 replace hB2 := hB2.call hb18
 replace hD := hD.call hb18
 replace hu := hu.later hb18
 replace hx := hx.later hb18
 replace hX := hX.call hb18
 clear lu3 lx3 hb18 h717 HC17
 have hs18 := h13.size
 rw [hn13] at hs18
 have hZ := Vs.new w18 [.slice za ni da, .slice zb ni db9, .slice zc size dc, .slice zd size dd] #[.slice za ni da, .slice zb ni db9, .slice zc size dc, .slice zd size dd] 48 rfl
 have hbA : Below w18.heap.size w18 (w18.alloc (.cells #[.slice za ni da, .slice zb ni db9, .slice zc size dc, .slice zd size dd] 48)) := by repeat (first | exact bA | with_reducible assumption | apply bB)
 replace hb00 := bl_call hb00 (Nat.le_refl _) hbA
 replace h7 := bl_call h7 (Nat.le_refl _) hbA
 replace h13 := bl_call h13 (Nat.le_refl _) hbA
 replace hT := hT.call hbA
 replace hoi := own_call hoi hbA
 replace hoo := own_call hoo hbA
 replace hBP := hBP.call hbA
 replace hBQ := hBQ.call hbA
 replace hB1 := hB1.call hbA
 replace hB2 := hB2.call hbA
 replace hD := hD.call hbA
 replace hu := hu.later hbA
 replace hx := hx.later hbA
 replace hX := hX.call hbA
 replace hu3 := hu3.later hbA
 replace hx3 := hx3.later hbA
 clear hbA
 generalize w18.alloc (.cells #[.slice za ni da, .slice zb ni db9, .slice zc size dc, .slice zd size dd] 48) = w19 at hb00 h7 h13 hT hoi hoo hBP hBQ hB1 hB2 hD hu hx hX hu3 hx3 hZ ⊢
 obtain ⟨zk, hzke⟩ : ∃ z, w18.heap.size = z := ⟨_, rfl⟩
 rw [hzke] at hZ hs18
 simp only [hzke]
 clear hzke
 go_upto_region 18 with fail
 have hbs := hb00.size
 have n1 : ¬ tb = gi := by omega
 have n2 : ¬ db = gi := by omega
 have HN1 := Lib.hid n1
 have HN2 := Lib.hid n2
 have HTT := Lib.hid hT
 have HDD := Lib.hid hD
 have HOI := Lib.hid hoi
 have HW0 : Hid (w.heap.size ≤ w19.heap.size) := hbs
 have HLA : Hid ((esK a).length = ni) := by show _ = _; rw [esK_length]; exact HAL.out
 have HK1 : Hid (ni + 1 ≤ 1099511627776) := by show _ ≤ _; omega
 have HNE1 : Hid (ni + 1 ≠ ni ∨ (ni + 1 = ni ∧ size ≠ size)) := .inl (by omega)
 clear n1 n2
 apply region_Z3 (n := 13) (m := 14) (f := 13) (fun x0 x1 x2 => (ApK w19 w.heap.size gi ni ci (esK a) [.slice none 0 0, .slice none 0 0, .slice none 0 0, .slice none 0 0] [.slice none 0 0, .slice none 0 0, .slice none 0 0, .slice none 0 0]) (some x0) (some x1) (some x2) true) ((ApT w19 gi (esK a)) none none none) ((ApK w19 w.heap.size gi ni ci (esK a) [.slice none 0 0, .slice none 0 0, .slice none 0 0, .slice none 0 0] [.slice none 0 0, .slice none 0 0, .slice none 0 0, .slice none 0 0]) none none none false) ((fun _ h => h.t)) (ApK.clo) ((ApK.start HOI.out))
 case hm => kernel_rfl
 case hB => kernel_rfl
 case hf => rfl
 case' h =>
  refine WpX.vD 0 (some 152) ?_ rfl rfl (by kernel_rfl) (fun _ _ _ h => h) rfl (fun wz hwz => ?_) ?_
  rotate_left
  ·(have hz := (HTT.out.exc (S := fun q => q = gi) HN1.out hwz.1).get8; obtain ⟨⟨z0, z1, z2, z3, z4, z5, z6, z7⟩, ⟨y0, y1, y2, y3, y4, y5, y6, y7⟩, y8⟩ := hz; go_simp; try (with_reducible rfl))
  simp only [Zp, Zq, Zr, Zs]
  refine WpX.vD 1 (some 153) ?_ rfl rfl (by kernel_rfl) (fun _ _ _ h => h) rfl (fun wz hwz => ?_) ?_
  rotate_left
  ·go_simp; try (with_reducible rfl)
  simp only [Zp, Zq, Zr, Zs]
  refine WpX.vD 2 (some 154) ?_ rfl rfl (by kernel_rfl) (fun _ _ _ h => h) rfl (fun wz hwz => ?_) ?_
  rotate_left
  ·go_simp; try (with_reducible rfl)
  simp only [Zp, Zq, Zr, Zs]
  refine WpX.vD 5 (some 157) ?_ rfl rfl (by kernel_rfl) (fun _ _ _ h => h) rfl (fun wz hwz => ?_) ?_
  rotate_left
  ·go_simp; try (with_reducible rfl)
  simp only [Zp, Zq, Zr, Zs]
  refine WpX.vD 6 (some 158) ?_ rfl rfl (by kernel_rfl) (fun _ _ _ h => h) rfl (fun wz hwz => ?_) ?_
  rotate_left
  ·(have hz := HDD.out.exc (S := fun q => q = gi) HN2.out hwz.1; obtain ⟨z0, z1, z2, z3, z4⟩ := V2.mk hz.c0 hz.c1 hz.f0 hz.f1 hz.lt; go_simp; try (with_reducible rfl))
  simp only [Zp, Zq, Zr, Zs]
  refine WpX.twoD 3 11 (some 155) (some 30) rfl rfl rfl rfl (by kernel_rfl) (fun b : Nat => Value.slice (some ⟨b, 0, none⟩) 1 1) (fun nb => (ApT w19 gi (esK a)) (some nb) none none) (fun nb => (ApK w19 w.heap.size gi ni ci (esK a) [.slice none 0 0, .slice none 0 0, .slice none 0 0, .slice none 0 0] [.slice none 0 0, .slice none 0 0, .slice none 0 0, .slice none 0 0]) (some nb) none none false) (Turns.val rfl (fun _ _ h => h) (fun _ => (fun _ h => h.t)) (fun _ => ApK.clo) (fun wz hS => ⟨wz.heap.size, wz.alloc (.cells #[.int .u64 0, .int .u64 0] 55), by go_simp; try (with_reducible rfl), hS.mk1⟩)) (fun b : Nat => Value.pointer (some ⟨b, 0, none⟩)) (fun vb9 => (ApT w19 gi (esK a)) none none (some vb9)) (fun vb9 => (ApK w19 w.heap.size gi ni ci (esK a) [.slice none 0 0, .slice none 0 0, .slice none 0 0, .slice none 0 0] [.slice none 0 0, .slice none 0 0, .slice none 0 0, .slice none 0 0]) none none (some vb9) false) (Turns.val rfl (fun _ _ h => h) (fun _ => (fun _ h => h.t)) (fun _ => ApK.clo) (fun wz hS => ⟨wz.heap.size, wz.alloc (.cells #[.slice none 0 0, .slice none 0 0, .slice none 0 0, .slice none 0 0] 48), by go_simp; try (with_reducible rfl), hS.mk3 _⟩)) (fun nb => ?rz18_2a) (fun vb9 => ?rz18_2b)
  case' rz18_2a =>
   simp only [Zp, Zq, Zr, Zs]
   refine WpX.twoD 4 11 (some 156) (some 30) rfl rfl rfl rfl (by kernel_rfl) (fun q : Nat × Nat => Value.slice (some ⟨q.1, 0, none⟩) (ni + 1) q.2) (fun apq => (ApT w19 gi (esK a)) (some nb) (some apq) none) (fun apq => (ApK w19 w.heap.size gi ni ci (esK a) [.slice none 0 0, .slice none 0 0, .slice none 0 0, .slice none 0 0] [.slice none 0 0, .slice none 0 0, .slice none 0 0, .slice none 0 0]) (some nb) (some apq) none false) (Turns.val rfl (fun _ _ h => ⟨h.1, h.2.1, fun _ e => (by cases e)⟩) (fun _ => (fun _ h => h.t)) (fun _ => ApK.clo) (fun wz hS => by obtain ⟨g', c', w', hr, h1, h2, h3, h4, h5, hE, h6⟩ := run_append_two wz w.heap.size gi ni ci 27 (esK a) HLA.out (hS.u rfl) nb 1 (0, 0) (hS.a nb rfl).2.1 (Nat.le_trans HW0.out hS.t.1.size) HK1.out; exact ⟨(g', c'), w', exec_append9 (.tmp 153) (.tmp 155) rfl rfl rfl hr, hS.mk2 (g', c') h1 h2 h3 (by rw [HLA.out]; exact h4) h5 hE h6⟩)) (fun b : Nat => Value.pointer (some ⟨b, 0, none⟩)) (fun vb9 => (ApT w19 gi (esK a)) (some nb) none (some vb9)) (fun vb9 => (ApK w19 w.heap.size gi ni ci (esK a) [.slice none 0 0, .slice none 0 0, .slice none 0 0, .slice none 0 0] [.slice none 0 0, .slice none 0 0, .slice none 0 0, .slice none 0 0]) (some nb) none (some vb9) false) (Turns.val rfl (fun _ _ h => h) (fun _ => (fun _ h => h.t)) (fun _ => ApK.clo) (fun wz hS => ⟨wz.heap.size, wz.alloc (.cells #[.slice none 0 0, .slice none 0 0, .slice none 0 0, .slice none 0 0] 48), by go_simp; try (with_reducible rfl), hS.mk3 _⟩)) (fun apq => ?rz18_3a) (fun vb9 => ?rz18_3b)
   case' rz18_3a =>
    simp only [Zp, Zq, Zr, Zs]
    refine WpX.takeD 7 (some 159) rfl rfl (by kernel_rfl) (fun _ _ _ h => h) (.call rfl (fun wz hwz => HS9.out wz (some ⟨apq.1, 0, none⟩) (some ⟨gp, 0, none⟩) (ni + 1) size apq.2 size (.slice (some ⟨g1, 0, none⟩) ni ni) (.slice (some ⟨g2, 0, none⟩) size size) HNE1.out) (fun wz hwz => ?_)) ?_
    ·go_simp; try (with_reducible rfl)
    simp only [Zp, Zq, Zr, Zs]
    refine WpX.vD 8 (some 151) ?_ rfl rfl (by kernel_rfl) (fun _ _ _ h => h) rfl (fun wz hwz => ?_) ?_
    rotate_left
    ·go_simp; try (with_reducible rfl)
    simp only [Zp, Zq, Zr, Zs]
    refine WpX.vD 9 (some 160) ?_ rfl rfl (by kernel_rfl) (fun _ _ _ h => h) rfl (fun wz hwz => ?_) ?_
    rotate_left
    ·go_simp; try (with_reducible rfl)
    simp only [Zp, Zq, Zr, Zs]
    refine WpX.vD 10 (some 161) ?_ rfl rfl (by kernel_rfl) (fun _ _ _ h => h) rfl (fun wz hwz => ?_) ?_
    rotate_left
    ·go_simp; try (with_reducible rfl)
    simp only [Zp, Zq, Zr, Zs]
    refine WpX.oneD 11 (some 30) rfl rfl (by kernel_rfl) (fun b : Nat => Value.pointer (some ⟨b, 0, none⟩)) (fun vb9 => (ApT w19 gi (esK a)) (some nb) (some apq) (some vb9)) (fun vb9 => (ApK w19 w.heap.size gi ni ci (esK a) [.slice none 0 0, .slice none 0 0, .slice none 0 0, .slice none 0 0] [.slice none 0 0, .slice none 0 0, .slice none 0 0, .slice none 0 0]) (some nb) (some apq) (some vb9) false) (Turns.val rfl (fun _ _ h => h) (fun _ => (fun _ h => h.t)) (fun _ => ApK.clo) (fun wz hS => ⟨wz.heap.size, wz.alloc (.cells #[.slice none 0 0, .slice none 0 0, .slice none 0 0, .slice none 0 0] 48), by go_simp; try (with_reducible rfl), hS.mk3 _⟩)) (fun vb9 => ?_)
    simp only [Zp, Zq, Zr, Zs]
    refine WpX.oneSkip 12 none rfl rfl (by kernel_rfl) ((ApT w19 gi (esK a)) (some nb) (some apq) (some vb9)) ((ApK w19 w.heap.size gi ni ci (esK a) [.slice none 0 0, .slice none 0 0, .slice none 0 0, .slice none 0 0] [.slice none 0 0, .slice none 0 0, .slice none 0 0, .slice none 0 0]) (some nb) (some apq) (some vb9) true) (fun _ h => h) ((fun _ h => h.t)) (ApK.clo) rfl (fun wz hS => ?_) ?_
    ·(have hv9 : Vs wz vb9 [.slice none 0 0, .slice none 0 0, .slice none 0 0, .slice none 0 0] := (hS.c vb9 rfl).2; obtain ⟨⟨c0, c1, c2, c3⟩, ⟨c4, c5, c6, c7⟩, c8⟩ := hv9.get4; exact ⟨_, by go_simp; try (with_reducible rfl), hS.put4⟩)
    simp only [Act.put]
    refine WpX.done (by kernel_rfl) (fun w20 hS => ⟨nb, apq, vb9, rfl, ?_⟩)
    ·exact hS
   case' rz18_3b =>
    simp only [Zp, Zq, Zr, Zs]
    refine WpX.oneD 4 (some 156) rfl rfl (by kernel_rfl) (fun q : Nat × Nat => Value.slice (some ⟨q.1, 0, none⟩) (ni + 1) q.2) (fun apq => (ApT w19 gi (esK a)) (some nb) (some apq) (some vb9)) (fun apq => (ApK w19 w.heap.size gi ni ci (esK a) [.slice none 0 0, .slice none 0 0, .slice none 0 0, .slice none 0 0] [.slice none 0 0, .slice none 0 0, .slice none 0 0, .slice none 0 0]) (some nb) (some apq) (some vb9) false) (Turns.val rfl (fun _ _ h => ⟨h.1, h.2.1, fun _ e => (by cases e)⟩) (fun _ => (fun _ h => h.t)) (fun _ => ApK.clo) (fun wz hS => by obtain ⟨g', c', w', hr, h1, h2, h3, h4, h5, hE, h6⟩ := run_append_two wz w.heap.size gi ni ci 27 (esK a) HLA.out (hS.u rfl) nb 1 (0, 0) (hS.a nb rfl).2.1 (Nat.le_trans HW0.out hS.t.1.size) HK1.out; exact ⟨(g', c'), w', exec_append9 (.tmp 153) (.tmp 155) rfl rfl rfl hr, hS.mk2 (g', c') h1 h2 h3 (by rw [HLA.out]; exact h4) h5 hE h6⟩)) (fun apq => ?_)
    simp only [Zp, Zq, Zr, Zs]
    refine WpX.takeD 7 (some 159) rfl rfl (by kernel_rfl) (fun _ _ _ h => h) (.call rfl (fun wz hwz => HS9.out wz (some ⟨apq.1, 0, none⟩) (some ⟨gp, 0, none⟩) (ni + 1) size apq.2 size (.slice (some ⟨g1, 0, none⟩) ni ni) (.slice (some ⟨g2, 0, none⟩) size size) HNE1.out) (fun wz hwz => ?_)) ?_
    ·go_simp; try (with_reducible rfl)
    simp only [Zp, Zq, Zr, Zs]
    refine WpX.vD 8 (some 151) ?_ rfl rfl (by kernel_rfl) (fun _ _ _ h => h) rfl (fun wz hwz => ?_) ?_
    rotate_left
    ·go_simp; try (with_reducible rfl)
    simp only [Zp, Zq, Zr, Zs]
    refine WpX.vD 9 (some 160) ?_ rfl rfl (by kernel_rfl) (fun _ _ _ h => h) rfl (fun wz hwz => ?_) ?_
    rotate_left
    ·go_simp; try (with_reducible rfl)
    simp only [Zp, Zq, Zr, Zs]
    refine WpX.vD 10 (some 161) ?_ rfl rfl (by kernel_rfl) (fun _ _ _ h => h) rfl (fun wz hwz => ?_) ?_
    rotate_left
    ·go_simp; try (with_reducible rfl)
    simp only [Zp, Zq, Zr, Zs]
    refine WpX.oneSkip 12 none rfl rfl (by kernel_rfl) ((ApT w19 gi (esK a)) (some nb) (some apq) (some vb9)) ((ApK w19 w.heap.size gi ni ci (esK a) [.slice none 0 0, .slice none 0 0, .slice none 0 0, .slice none 0 0] [.slice none 0 0, .slice none 0 0, .slice none 0 0, .slice none 0 0]) (some nb) (some apq) (some vb9) true) (fun _ h => h) ((fun _ h => h.t)) (ApK.clo) rfl (fun wz hS => ?_) ?_
    ·(have hv9 : Vs wz vb9 [.slice none 0 0, .slice none 0 0, .slice none 0 0, .slice none 0 0] := (hS.c vb9 rfl).2; obtain ⟨⟨c0, c1, c2, c3⟩, ⟨c4, c5, c6, c7⟩, c8⟩ := hv9.get4; exact ⟨_, by go_simp; try (with_reducible rfl), hS.put4⟩)
    simp only [Act.put]
    refine WpX.done (by kernel_rfl) (fun w20 hS => ⟨nb, apq, vb9, rfl, ?_⟩)
    ·exact hS
  case' rz18_2b =>
   simp only [Zp, Zq, Zr, Zs]
   refine WpX.oneD 3 (some 155) rfl rfl (by kernel_rfl) (fun b : Nat => Value.slice (some ⟨b, 0, none⟩) 1 1) (fun nb => (ApT w19 gi (esK a)) (some nb) none (some vb9)) (fun nb => (ApK w19 w.heap.size gi ni ci (esK a) [.slice none 0 0, .slice none 0 0, .slice none 0 0, .slice none 0 0] [.slice none 0 0, .slice none 0 0, .slice none 0 0, .slice none 0 0]) (some nb) none (some vb9) false) (Turns.val rfl (fun _ _ h => h) (fun _ => (fun _ h => h.t)) (fun _ => ApK.clo) (fun wz hS => ⟨wz.heap.size, wz.alloc (.cells #[.int .u64 0, .int .u64 0] 55), by go_simp; try (with_reducible rfl), hS.mk1⟩)) (fun nb => ?_)
   simp only [Zp, Zq, Zr, Zs]
   refine WpX.oneD 4 (some 156) rfl rfl (by kernel_rfl) (fun q : Nat × Nat => Value.slice (some ⟨q.1, 0, none⟩) (ni + 1) q.2) (fun apq => (ApT w19 gi (esK a)) (some nb) (some apq) (some vb9)) (fun apq => (ApK w19 w.heap.size gi ni ci (esK a) [.slice none 0 0, .slice none 0 0, .slice none 0 0, .slice none 0 0] [.slice none 0 0, .slice none 0 0, .slice none 0 0, .slice none 0 0]) (some nb) (some apq) (some vb9) false) (Turns.val rfl (fun _ _ h => ⟨h.1, h.2.1, fun _ e => (by cases e)⟩) (fun _ => (fun _ h => h.t)) (fun _ => ApK.clo) (fun wz hS => by obtain ⟨g', c', w', hr, h1, h2, h3, h4, h5, hE, h6⟩ := run_append_two wz w.heap.size gi ni ci 27 (esK a) HLA.out (hS.u rfl) nb 1 (0, 0) (hS.a nb rfl).2.1 (Nat.le_trans HW0.out hS.t.1.size) HK1.out; exact ⟨(g', c'), w', exec_append9 (.tmp 153) (.tmp 155) rfl rfl rfl hr, hS.mk2 (g', c') h1 h2 h3 (by rw [HLA.out]; exact h4) h5 hE h6⟩)) (fun apq => ?_)
   simp only [Zp, Zq, Zr, Zs]
   refine WpX.takeD 7 (some 159) rfl rfl (by kernel_rfl) (fun _ _ _ h => h) (.call rfl (fun wz hwz => HS9.out wz (some ⟨apq.1, 0, none⟩) (some ⟨gp, 0, none⟩) (ni + 1) size apq.2 size (.slice (some ⟨g1, 0, none⟩) ni ni) (.slice (some ⟨g2, 0, none⟩) size size) HNE1.out) (fun wz hwz => ?_)) ?_
   ·go_simp; try (with_reducible rfl)
   simp only [Zp, Zq, Zr, Zs]
   refine WpX.vD 8 (some 151) ?_ rfl rfl (by kernel_rfl) (fun _ _ _ h => h) rfl (fun wz hwz => ?_) ?_
   rotate_left
   ·go_simp; try (with_reducible rfl)
   simp only [Zp, Zq, Zr, Zs]
   refine WpX.vD 9 (some 160) ?_ rfl rfl (by kernel_rfl) (fun _ _ _ h => h) rfl (fun wz hwz => ?_) ?_
   rotate_left
   ·go_simp; try (with_reducible rfl)
   simp only [Zp, Zq, Zr, Zs]
   refine WpX.vD 10 (some 161) ?_ rfl rfl (by kernel_rfl) (fun _ _ _ h => h) rfl (fun wz hwz => ?_) ?_
   rotate_left
   ·go_simp; try (with_reducible rfl)
   simp only [Zp, Zq, Zr, Zs]
   refine WpX.oneSkip 12 none rfl rfl (by kernel_rfl) ((ApT w19 gi (esK a)) (some nb) (some apq) (some vb9)) ((ApK w19 w.heap.size gi ni ci (esK a) [.slice none 0 0, .slice none 0 0, .slice none 0 0, .slice none 0 0] [.slice none 0 0, .slice none 0 0, .slice none 0 0, .slice none 0 0]) (some nb) (some apq) (some vb9) true) (fun _ h => h) ((fun _ h => h.t)) (ApK.clo) rfl (fun wz hS => ?_) ?_
   ·(have hv9 : Vs wz vb9 [.slice none 0 0, .slice none 0 0, .slice none 0 0, .slice none 0 0] := (hS.c vb9 rfl).2; obtain ⟨⟨c0, c1, c2, c3⟩, ⟨c4, c5, c6, c7⟩, c8⟩ := hv9.get4; exact ⟨_, by go_simp; try (with_reducible rfl), hS.put4⟩)
   simp only [Act.put]
   refine WpX.done (by kernel_rfl) (fun w20 hS => ⟨nb, apq, vb9, rfl, ?_⟩)
   ·exact hS
 intro nb apq vb9 w20 hS
 (try simp only [List.drop_succ_cons]); (try simp only [List.drop_zero]); (try simp only [Nat.reduceSub]); (try simp only [List.take_succ_cons]); (try simp only [List.take_zero])
 have hE20 := hS.t.1
 have hri := hS.t.2.1
 clear hS HTT HDD HOI
 have hBP20 := hBP.exc (S := fun q => q = gi) (fun h => by have h2 : _ = gi := h; omega) hE20
 have hoo20 := own_exc9 (S := fun q => q = gi) hoo (fun h => by have h2 : _ = gi := h; omega) hE20
 have hgi20 : gi < w20.heap.size := Nat.lt_of_lt_of_le (own_rowA hoi).2.1 hE20.size
 clear hBP hoo hoi
 replace hT := hT.exc (S := fun q => q = gi) (fun h => by have h2 : _ = gi := h; omega) hE20
 replace hD := hD.exc (S := fun q => q = gi) (fun h => by have h2 : _ = gi := h; omega) hE20
 replace hX := hX.exc (S := fun q => q = gi) (fun h => by have h2 : _ = gi := h; omega) hE20
 replace hZ := hZ.exc (S := fun q => q = gi) (fun h => by have h2 : _ = gi := h; omega) hE20
 replace hu := hu.excLo (S := fun q => q = gi) LU.out (fun q h => by have h2 : q = gi := h; omega) hE20
 replace hx := hx.excLo (S := fun q => q = gi) LX.out (fun q h => by have h2 : q = gi := h; omega) hE20
 replace hu3 := hu3.excLo (S := fun q => q = gi) LU3.out (fun q h => by have h2 : q = gi := h; omega) hE20
 replace hx3 := hx3.excLo (S := fun q => q = gi) LX3.out (fun q h => by have h2 : q = gi := h; omega) hE20
 replace hB1 := hB1.exc (S := fun q => q = gi) (fun h => by have h2 : _ = gi := h; omega) hE20
 replace hB2 := hB2.exc (S := fun q => q = gi) (fun h => by have h2 : _ = gi := h; omega) hE20
 replace hb00 := hb00.trans ((hE20.mono hb00.size).below fun k hk h => by have h2 : k = gi := h; omega)
 clear hE20 HN1 HN2 HW0 HLA HK1 HNE1
 go_upto_region 19 with fail
 have n1 : ¬ tb = gp := by omega
 have n2 : ¬ db = gp := by omega
 have HN1 := Lib.hid n1
 have HN2 := Lib.hid n2
 have HTT := Lib.hid hT
 have HDD := Lib.hid hD
 have HLA : Hid ((esK pr).length = size) := by show _ = _; rw [esK_length]; exact HPL.out
 have HOI := Lib.hid (own_blk9 hBP20 HLA.out (by omega))
 have HK1 : Hid (size + 1 ≤ 1099511627776) := by show _ ≤ _; omega
 have HNE1 : Hid (ni ≠ ni ∨ (ni = ni ∧ size + 1 ≠ size)) := .inr ⟨rfl, by omega⟩
 clear n1 n2
 apply region_Z3 (n := 13) (m := 14) (f := 13) (fun x0 x1 x2 => (ApK w20 0 gp size size (esK pr) [.slice none 0 0, .slice none 0 0, .slice none 0 0, .slice none 0 0] [.slice none 0 0, .slice none 0 0, .slice none 0 0, .slice none 0 0]) (some x0) (some x1) (some x2) true) ((ApT w20 gp (esK pr)) none none none) ((ApK w20 0 gp size size (esK pr) [.slice none 0 0, .slice none 0 0, .slice none 0 0, .slice none 0 0] [.slice none 0 0, .slice none 0 0, .slice none 0 0, .slice none 0 0]) none none none false) ((fun _ h => h.t)) (ApK.clo) ((ApK.start HOI.out))
 case hm => kernel_rfl
 case hB => kernel_rfl
 case hf => rfl
 case' h =>
  refine WpX.vD 0 (some 163) ?_ rfl rfl (by kernel_rfl) (fun _ _ _ h => h) rfl (fun wz hwz => ?_) ?_
  rotate_left
  ·(have hz := (HTT.out.exc (S := fun q => q = gp) HN1.out hwz.1).get8; obtain ⟨⟨z0, z1, z2, z3, z4, z5, z6, z7⟩, ⟨y0, y1, y2, y3, y4, y5, y6, y7⟩, y8⟩ := hz; go_simp; try (with_reducible rfl))
  simp only [Zp, Zq, Zr, Zs]
  refine WpX.vD 1 (some 164) ?_ rfl rfl (by kernel_rfl) (fun _ _ _ h => h) rfl (fun wz hwz => ?_) ?_
  rotate_left
  ·go_simp; try (with_reducible rfl)
  simp only [Zp, Zq, Zr, Zs]
  refine WpX.vD 2 (some 165) ?_ rfl rfl (by kernel_rfl) (fun _ _ _ h => h) rfl (fun wz hwz => ?_) ?_
  rotate_left
  ·go_simp; try (with_reducible rfl)
  simp only [Zp, Zq, Zr, Zs]
  refine WpX.vD 3 (some 166) ?_ rfl rfl (by kernel_rfl) (fun _ _ _ h => h) rfl (fun wz hwz => ?_) ?_
  rotate_left
  ·go_simp; try (with_reducible rfl)
  simp only [Zp, Zq, Zr, Zs]
  refine WpX.vD 6 (some 169) ?_ rfl rfl (by kernel_rfl) (fun _ _ _ h => h) rfl (fun wz hwz => ?_) ?_
  rotate_left
  ·(have hz := HDD.out.exc (S := fun q => q = gp) HN2.out hwz.1; obtain ⟨z0, z1, z2, z3, z4⟩ := V2.mk hz.c0 hz.c1 hz.f0 hz.f1 hz.lt; go_simp; try (with_reducible rfl))
  simp only [Zp, Zq, Zr, Zs]
  refine WpX.twoD 4 11 (some 167) (some 32) rfl rfl rfl rfl (by kernel_rfl) (fun b : Nat => Value.slice (some ⟨b, 0, none⟩) 1 1) (fun nb => (ApT w20 gp (esK pr)) (some nb) none none) (fun nb => (ApK w20 0 gp size size (esK pr) [.slice none 0 0, .slice none 0 0, .slice none 0 0, .slice none 0 0] [.slice none 0 0, .slice none 0 0, .slice none 0 0, .slice none 0 0]) (some nb) none none false) (Turns.val rfl (fun _ _ h => h) (fun _ => (fun _ h => h.t)) (fun _ => ApK.clo) (fun wz hS => ⟨wz.heap.size, wz.alloc (.cells #[.int .u64 0, .int .u64 0] 55), by go_simp; try (with_reducible rfl), hS.mk1⟩)) (fun b : Nat => Value.pointer (some ⟨b, 0, none⟩)) (fun vb9 => (ApT w20 gp (esK pr)) none none (some vb9)) (fun vb9 => (ApK w20 0 gp size size (esK pr) [.slice none 0 0, .slice none 0 0, .slice none 0 0, .slice none 0 0] [.slice none 0 0, .slice none 0 0, .slice none 0 0, .slice none 0 0]) none none (some vb9) false) (Turns.val rfl (fun _ _ h => h) (fun _ => (fun _ h => h.t)) (fun _ => ApK.clo) (fun wz hS => ⟨wz.heap.size, wz.alloc (.cells #[.slice none 0 0, .slice none 0 0, .slice none 0 0, .slice none 0 0] 48), by go_simp; try (with_reducible rfl), hS.mk3 _⟩)) (fun nb => ?rz19_5a) (fun vb9 => ?rz19_5b)
  case' rz19_5a =>
   simp only [Zp, Zq, Zr, Zs]
   refine WpX.twoD 5 11 (some 168) (some 32) rfl rfl rfl rfl (by kernel_rfl) (fun q : Nat × Nat => Value.slice (some ⟨q.1, 0, none⟩) (size + 1) q.2) (fun apq => (ApT w20 gp (esK pr)) (some nb) (some apq) none) (fun apq => (ApK w20 0 gp size size (esK pr) [.slice none 0 0, .slice none 0 0, .slice none 0 0, .slice none 0 0] [.slice none 0 0, .slice none 0 0, .slice none 0 0, .slice none 0 0]) (some nb) (some apq) none false) (Turns.val rfl (fun _ _ h => ⟨h.1, h.2.1, fun _ e => (by cases e)⟩) (fun _ => (fun _ h => h.t)) (fun _ => ApK.clo) (fun wz hS => by obtain ⟨g', c', w', hr, h1, h2, h3, h4, h5, hE, h6⟩ := run_append_two wz 0 gp size size 27 (esK pr) HLA.out (hS.u rfl) nb 1 (0, 0) (hS.a nb rfl).2.1 (Nat.zero_le _) HK1.out; exact ⟨(g', c'), w', exec_append9 (.tmp 165) (.tmp 167) rfl rfl rfl hr, hS.mk2 (g', c') h1 h2 h3 (by rw [HLA.out]; exact h4) h5 hE h6⟩)) (fun b : Nat => Value.pointer (some ⟨b, 0, none⟩)) (fun vb9 => (ApT w20 gp (esK pr)) (some nb) none (some vb9)) (fun vb9 => (ApK w20 0 gp size size (esK pr) [.slice none 0 0, .slice none 0 0, .slice none 0 0, .slice none 0 0] [.slice none 0 0, .slice none 0 0, .slice none 0 0, .slice none 0 0]) (some nb) none (some vb9) false) (Turns.val rfl (fun _ _ h => h) (fun _ => (fun _ h => h.t)) (fun _ => ApK.clo) (fun wz hS => ⟨wz.heap.size, wz.alloc (.cells #[.slice none 0 0, .slice none 0 0, .slice none 0 0, .slice none 0 0] 48), by go_simp; try (with_reducible rfl), hS.mk3 _⟩)) (fun apq => ?rz19_6a) (fun vb9 => ?rz19_6b)
   case' rz19_6a =>
    simp only [Zp, Zq, Zr, Zs]
    refine WpX.takeD 7 (some 170) rfl rfl (by kernel_rfl) (fun _ _ _ h => h) (.call rfl (fun wz hwz => HS9.out wz (some ⟨gi, 0, none⟩) (some ⟨apq.1, 0, none⟩) ni (size + 1) ci apq.2 (.slice (some ⟨g1, 0, none⟩) ni ni) (.slice (some ⟨g2, 0, none⟩) size size) HNE1.out) (fun wz hwz => ?_)) ?_
    ·go_simp; try (with_reducible rfl)
    simp only [Zp, Zq, Zr, Zs]
    refine WpX.vD 8 (some 162) ?_ rfl rfl (by kernel_rfl) (fun _ _ _ h => h) rfl (fun wz hwz => ?_) ?_
    rotate_left
    ·go_simp; try (with_reducible rfl)
    simp only [Zp, Zq, Zr, Zs]
    refine WpX.vD 9 (some 171) ?_ rfl rfl (by kernel_rfl) (fun _ _ _ h => h) rfl (fun wz hwz => ?_) ?_
    rotate_left
    ·go_simp; try (with_reducible rfl)
    simp only [Zp, Zq, Zr, Zs]
    refine WpX.vD 10 (some 172) ?_ rfl rfl (by kernel_rfl) (fun _ _ _ h => h) rfl (fun wz hwz => ?_) ?_
    rotate_left
    ·go_simp; try (with_reducible rfl)
    simp only [Zp, Zq, Zr, Zs]
    refine WpX.oneD 11 (some 32) rfl rfl (by kernel_rfl) (fun b : Nat => Value.pointer (some ⟨b, 0, none⟩)) (fun vb9 => (ApT w20 gp (esK pr)) (some nb) (some apq) (some vb9)) (fun vb9 => (ApK w20 0 gp size size (esK pr) [.slice none 0 0, .slice none 0 0, .slice none 0 0, .slice none 0 0] [.slice none 0 0, .slice none 0 0, .slice none 0 0, .slice none 0 0]) (some nb) (some apq) (some vb9) false) (Turns.val rfl (fun _ _ h => h) (fun _ => (fun _ h => h.t)) (fun _ => ApK.clo) (fun wz hS => ⟨wz.heap.size, wz.alloc (.cells #[.slice none 0 0, .slice none 0 0, .slice none 0 0, .slice none 0 0] 48), by go_simp; try (with_reducible rfl), hS.mk3 _⟩)) (fun vb9 => ?_)
    simp only [Zp, Zq, Zr, Zs]
    refine WpX.oneSkip 12 none rfl rfl (by kernel_rfl) ((ApT w20 gp (esK pr)) (some nb) (some apq) (some vb9)) ((ApK w20 0 gp size size (esK pr) [.slice none 0 0, .slice none 0 0, .slice none 0 0, .slice none 0 0] [.slice none 0 0, .slice none 0 0, .slice none 0 0, .slice none 0 0]) (some nb) (some apq) (some vb9) true) (fun _ h => h) ((fun _ h => h.t)) (ApK.clo) rfl (fun wz hS => ?_) ?_
    ·(have hv9 : Vs wz vb9 [.slice none 0 0, .slice none 0 0, .slice none 0 0, .slice none 0 0] := (hS.c vb9 rfl).2; obtain ⟨⟨c0, c1, c2, c3⟩, ⟨c4, c5, c6, c7⟩, c8⟩ := hv9.get4; exact ⟨_, by go_simp; try (with_reducible rfl), hS.put4⟩)
    simp only [Act.put]
    refine WpX.done (by kernel_rfl) (fun w21 hS => ⟨nb, apq, vb9, rfl, ?_⟩)
    ·exact hS
   case' rz19_6b =>
    simp only [Zp, Zq, Zr, Zs]
    refine WpX.oneD 5 (some 168) rfl rfl (by kernel_rfl) (fun q : Nat × Nat => Value.slice (some ⟨q.1, 0, none⟩) (size + 1) q.2) (fun apq => (ApT w20 gp (esK pr)) (some nb) (some apq) (some vb9)) (fun apq => (ApK w20 0 gp size size (esK pr) [.slice none 0 0, .slice none 0 0, .slice none 0 0, .slice none 0 0] [.slice none 0 0, .slice none 0 0, .slice none 0 0, .slice none 0 0]) (some nb) (some apq) (some vb9) false) (Turns.val rfl (fun _ _ h => ⟨h.1, h.2.1, fun _ e => (by cases e)⟩) (fun _ => (fun _ h => h.t)) (fun _ => ApK.clo) (fun wz hS => by obtain ⟨g', c', w', hr, h1, h2, h3, h4, h5, hE, h6⟩ := run_append_two wz 0 gp size size 27 (esK pr) HLA.out (hS.u rfl) nb 1 (0, 0) (hS.a nb rfl).2.1 (Nat.zero_le _) HK1.out; exact ⟨(g', c'), w', exec_append9 (.tmp 165) (.tmp 167) rfl rfl rfl hr, hS.mk2 (g', c') h1 h2 h3 (by rw [HLA.out]; exact h4) h5 hE h6⟩)) (fun apq => ?_)
    simp only [Zp, Zq, Zr, Zs]
    refine WpX.takeD 7 (some 170) rfl rfl (by kernel_rfl) (fun _ _ _ h => h) (.call rfl (fun wz hwz => HS9.out wz (some ⟨gi, 0, none⟩) (some ⟨apq.1, 0, none⟩) ni (size + 1) ci apq.2 (.slice (some ⟨g1, 0, none⟩) ni ni) (.slice (some ⟨g2, 0, none⟩) size size) HNE1.out) (fun wz hwz => ?_)) ?_
    ·go_simp; try (with_reducible rfl)
    simp only [Zp, Zq, Zr, Zs]
    refine WpX.vD 8 (some 162) ?_ rfl rfl (by kernel_rfl) (fun _ _ _ h => h) rfl (fun wz hwz => ?_) ?_
    rotate_left
    ·go_simp; try (with_reducible rfl)
    simp only [Zp, Zq, Zr, Zs]
    refine WpX.vD 9 (some 171) ?_ rfl rfl (by kernel_rfl) (fun _ _ _ h => h) rfl (fun wz hwz => ?_) ?_
    rotate_left
    ·go_simp; try (with_reducible rfl)
    simp only [Zp, Zq, Zr, Zs]
    refine WpX.vD 10 (some 172) ?_ rfl rfl (by kernel_rfl) (fun _ _ _ h => h) rfl (fun wz hwz => ?_) ?_
    rotate_left
    ·go_simp; try (with_reducible rfl)
    simp only [Zp, Zq, Zr, Zs]
    refine WpX.oneSkip 12 none rfl rfl (by kernel_rfl) ((ApT w20 gp (esK pr)) (some nb) (some apq) (some vb9)) ((ApK w20 0 gp size size (esK pr) [.slice none 0 0, .slice none 0 0, .slice none 0 0, .slice none 0 0] [.slice none 0 0, .slice none 0 0, .slice none 0 0, .slice none 0 0]) (some nb) (some apq) (some vb9) true) (fun _ h => h) ((fun _ h => h.t)) (ApK.clo) rfl (fun wz hS => ?_) ?_
    ·(have hv9 : Vs wz vb9 [.slice none 0 0, .slice none 0 0, .slice none 0 0, .slice none 0 0] := (hS.c vb9 rfl).2; obtain ⟨⟨c0, c1, c2, c3⟩, ⟨c4, c5, c6, c7⟩, c8⟩ := hv9.get4; exact ⟨_, by go_simp; try (with_reducible rfl), hS.put4⟩)
    simp only [Act.put]
    refine WpX.done (by kernel_rfl) (fun w21 hS => ⟨nb, apq, vb9, rfl, ?_⟩)
    ·exact hS
  case' rz19_5b =>
   simp only [Zp, Zq, Zr, Zs]
   refine WpX.oneD 4 (some 167) rfl rfl (by kernel_rfl) (fun b : Nat => Value.slice (some ⟨b, 0, none⟩) 1 1) (fun nb => (ApT w20 gp (esK pr)) (some nb) none (some vb9)) (fun nb => (ApK w20 0 gp size size (esK pr) [.slice none 0 0, .slice none 0 0, .slice none 0 0, .slice none 0 0] [.slice none 0 0, .slice none 0 0, .slice none 0 0, .slice none 0 0]) (some nb) none (some vb9) false) (Turns.val rfl (fun _ _ h => h) (fun _ => (fun _ h => h.t)) (fun _ => ApK.clo) (fun wz hS => ⟨wz.heap.size, wz.alloc (.cells #[.int .u64 0, .int .u64 0] 55), by go_simp; try (with_reducible rfl), hS.mk1⟩)) (fun nb => ?_)
   simp only [Zp, Zq, Zr, Zs]
   refine WpX.oneD 5 (some 168) rfl rfl (by kernel_rfl) (fun q : Nat × Nat => Value.slice (some ⟨q.1, 0, none⟩) (size + 1) q.2) (fun apq => (ApT w20 gp (esK pr)) (some nb) (some apq) (some vb9)) (fun apq => (ApK w20 0 gp size size (esK pr) [.slice none 0 0, .slice none 0 0, .slice none 0 0, .slice none 0 0] [.slice none 0 0, .slice none 0 0, .slice none 0 0, .slice none 0 0]) (some nb) (some apq) (some vb9) false) (Turns.val rfl (fun _ _ h => ⟨h.1, h.2.1, fun _ e => (by cases e)⟩) (fun _ => (fun _ h => h.t)) (fun _ => ApK.clo) (fun wz hS => by obtain ⟨g', c', w', hr, h1, h2, h3, h4, h5, hE, h6⟩ := run_append_two wz 0 gp size size 27 (esK pr) HLA.out (hS.u rfl) nb 1 (0, 0) (hS.a nb rfl).2.1 (Nat.zero_le _) HK1.out; exact ⟨(g', c'), w', exec_append9 (.tmp 165) (.tmp 167) rfl rfl rfl hr, hS.mk2 (g', c') h1 h2 h3 (by rw [HLA.out]; exact h4) h5 hE h6⟩)) (fun apq => ?_)
   simp only [Zp, Zq, Zr, Zs]
   refine WpX.takeD 7 (some 170) rfl rfl (by kernel_rfl) (fun _ _ _ h => h) (.call rfl (fun wz hwz => HS9.out wz (some ⟨gi, 0, none⟩) (some ⟨apq.1, 0, none⟩) ni (size + 1) ci apq.2 (.slice (some ⟨g1, 0, none⟩) ni ni) (.slice (some ⟨g2, 0, none⟩) size size) HNE1.out) (fun wz hwz => ?_)) ?_
   ·go_simp; try (with_reducible rfl)
   simp only [Zp, Zq, Zr, Zs]
   refine WpX.vD 8 (some 162) ?_ rfl rfl (by kernel_rfl) (fun _ _ _ h => h) rfl (fun wz hwz => ?_) ?_
   rotate_left
   ·go_simp; try (with_reducible rfl)
   simp only [Zp, Zq, Zr, Zs]
   refine WpX.vD 9 (some 171) ?_ rfl rfl (by kernel_rfl) (fun _ _ _ h => h) rfl (fun wz hwz => ?_) ?_
   rotate_left
   ·go_simp; try (with_reducible rfl)
   simp only [Zp, Zq, Zr, Zs]
   refine WpX.vD 10 (some 172) ?_ rfl rfl (by kernel_rfl) (fun _ _ _ h => h) rfl (fun wz hwz => ?_) ?_
   rotate_left
   ·go_simp; try (with_reducible rfl)
   simp only [Zp, Zq, Zr, Zs]
   refine WpX.oneSkip 12 none rfl rfl (by kernel_rfl) ((ApT w20 gp (esK pr)) (some nb) (some apq) (some vb9)) ((ApK w20 0 gp size size (esK pr) [.slice none 0 0, .slice none 0 0, .slice none 0 0, .slice none 0 0] [.slice none 0 0, .slice none 0 0, .slice none 0 0, .slice none 0 0]) (some nb) (some apq) (some vb9) true) (fun _ h => h) ((fun _ h => h.t)) (ApK.clo) rfl (fun wz hS => ?_) ?_
   ·(have hv9 : Vs wz vb9 [.slice none 0 0, .slice none 0 0, .slice none 0 0, .slice none 0 0] := (hS.c vb9 rfl).2; obtain ⟨⟨c0, c1, c2, c3⟩, ⟨c4, c5, c6, c7⟩, c8⟩ := hv9.get4; exact ⟨_, by go_simp; try (with_reducible rfl), hS.put4⟩)
   simp only [Act.put]
   refine WpX.done (by kernel_rfl) (fun w21 hS => ⟨nb, apq, vb9, rfl, ?_⟩)
   ·exact hS
 intro nb apq vb9 w21 hS
 (try simp only [List.drop_succ_cons]); (try simp only [List.drop_zero]); (try simp only [Nat.reduceSub]); (try simp only [List.take_succ_cons]); (try simp only [List.take_zero])
 have hE21 := hS.t.1
 have hrp := hS.t.2.1
 clear hS HTT HDD HOI
 have hri21 := hri.exc9 hE21 (by omega) hgi20
 have hoo21 := own_exc9 (S := fun q => q = gp) hoo20 (fun h => by have h2 : _ = gp := h; omega) hE21
 have hgi21 : gi < w21.heap.size := Nat.lt_of_lt_of_le hgi20 hE21.size
 have hgp21 : gp < w21.heap.size := Nat.lt_of_lt_of_le hBP20.lt hE21.size
 clear hBP20 hoo20 hri hgi20
 replace hT := hT.exc (S := fun q => q = gp) (fun h => by have h2 : _ = gp := h; omega) hE21
 replace hD := hD.exc (S := fun q => q = gp) (fun h => by have h2 : _ = gp := h; omega) hE21
 replace hX := hX.exc (S := fun q => q = gp) (fun h => by have h2 : _ = gp := h; omega) hE21
 replace hZ := hZ.exc (S := fun q => q = gp) (fun h => by have h2 : _ = gp := h; omega) hE21
 replace hu := hu.excLo (S := fun q => q = gp) LU.out (fun q h => by have h2 : q = gp := h; omega) hE21
 replace hx := hx.excLo (S := fun q => q = gp) LX.out (fun q h => by have h2 : q = gp := h; omega) hE21
 replace hu3 := hu3.excLo (S := fun q => q = gp) LU3.out (fun q h => by have h2 : q = gp := h; omega) hE21
 replace hx3 := hx3.excLo (S := fun q => q = gp) LX3.out (fun q h => by have h2 : q = gp := h; omega) hE21
 replace hB1 := hB1.exc (S := fun q => q = gp) (fun h => by have h2 : _ = gp := h; omega) hE21
 replace hB2 := hB2.exc (S := fun q => q = gp) (fun h => by have h2 : _ = gp := h; omega) hE21
 replace hb00 := hb00.trans ((hE21.mono hb00.size).below fun k hk h => by have h2 : k = gp := h; omega)
 clear hE21 HN1 HN2 HLA HK1 HNE1
 go_upto_region 20 with fail
 have n1 : ¬ tb = go := by omega
 have n2 : ¬ db = go := by omega
 have HN1 := Lib.hid n1
 have HN2 := Lib.hid n2
 have HTT := Lib.hid hT
 have HDD := Lib.hid hD
 have HOI := Lib.hid hoo21
 have hbs := hb00.size
 have HW0 : Hid (w.heap.size ≤ w21.heap.size) := hbs
 have HLA : Hid ((esK oa).length = ni) := by show _ = _; rw [esK_length]; exact HBL.out
 have HK1 : Hid (ni + 1 ≤ 1099511627776) := by show _ ≤ _; omega
 have HLEN : Hid ((esK oa ++ [((0 : Int), (0 : Int))]).length ≠ ni) := by show _ ≠ _; rw [List.length_append, esK_length, HBL.out]; show ni + 1 ≠ ni; omega
 have HXI : Hid (SlX (fun q => q = go) w21 (.slice (some ⟨gi, 0, none⟩) ni ci) a) := SlX.of HAL.out HCA.out.1 HCA.out.2 hgi21 (fun h => by have h2 : _ = go := h; omega) hri21
 have HXP : Hid (SlX (fun q => q = go) w21 (.slice (some ⟨gp, 0, none⟩) size size) pr) := SlX.of HPL.out (Nat.le_refl _) (by omega) hgp21 (fun h => by have h2 : _ = go := h; omega) hrp
 have HX1 : Hid (SlX (fun q => q = go) w21 (.slice (some ⟨g1, 0, none⟩) ni ni) e1) := SlX.of H1L.out (Nat.le_refl _) (by omega) hB1.lt (fun h => by have h2 : _ = go := h; omega) hB1.rowE
 have HX2 : Hid (SlX (fun q => q = go) w21 (.slice (some ⟨g2, 0, none⟩) size size) e2) := SlX.of H2L.out (Nat.le_refl _) (by omega) hB2.lt (fun h => by have h2 : _ = go := h; omega) hB2.rowE
 have HC20 : Hid (∀ (wz : World) (q : Nat × Nat), ApT w21 go (esK oa) none (some q) none wz → Calls Try.prog 11 #[.agg #[.int .u8 yk, .int .u8 (F : Int), .int .i64 yb, .int .i64 yl, .int .i64 ym, .int .i64 yc, .int .i64 (pq : Int), .string s], .slice (some ⟨gi, 0, none⟩) ni ci, .slice (some ⟨gp, 0, none⟩) size size, .slice (some ⟨q.1, 0, none⟩) (ni + 1) q.2, .slice (some ⟨gq, 0, none⟩) size size, .agg #[.slice (some ⟨g1, 0, none⟩) ni ni, .slice (some ⟨g2, 0, none⟩) size size]] wz fun e w' => e = .returned (.tuple #[.agg #[.slice none 0 0, .slice none 0 0], .int .i64 9]) ∧ Below wz.heap.size wz w') := fun wz q h => by
  obtain ⟨h1, h2, h3⟩ := h
  obtain ⟨k1, k2, k3, k4⟩ := h3 q rfl
  rw [HLA.out] at k3
  exact HO9.out wz _ _ _ _ _ _ a pr e1 e2 qr (esK oa ++ [(0, 0)]) (HXI.out.exc h1).toK (HXP.out.exc h1).toK (slE_one HBL.out k1 k2 k3 k4) (HX1.out.exc h1).toK (HX2.out.exc h1).toK HAL.out H1L.out HPL.out H2L.out HLEN.out (allIn_one HF.out oa)
 clear n1 n2 hri21 hrp hgi21 hgp21
 apply region_Z3 (n := 15) (m := 16) (f := 15) (fun x0 x1 x2 => (ApK w21 w.heap.size go ni co (esK oa) [.slice none 0 0, .slice none 0 0] [.slice none 0 0, .slice none 0 0]) (some x0) (some x1) (some x2) true) ((ApT w21 go (esK oa)) none none none) ((ApK w21 w.heap.size go ni co (esK oa) [.slice none 0 0, .slice none 0 0] [.slice none 0 0, .slice none 0 0]) none none none false) ((fun _ h => h.t)) (ApK.clo) ((ApK.start HOI.out))
 case hm => kernel_rfl
 case hB => kernel_rfl
 case hf => rfl
 case' h =>
  refine WpX.vD 0 (some 174) ?_ rfl rfl (by kernel_rfl) (fun _ _ _ h => h) rfl (fun wz hwz => ?_) ?_
  rotate_left
  ·(have hz := (HTT.out.exc (S := fun q => q = go) HN1.out hwz.1).get8; obtain ⟨⟨z0, z1, z2, z3, z4, z5, z6, z7⟩, ⟨y0, y1, y2, y3, y4, y5, y6, y7⟩, y8⟩ := hz; go_simp; try (with_reducible rfl))
  simp only [Zp, Zq, Zr, Zs]
  refine WpX.vD 1 (some 175) ?_ rfl rfl (by kernel_rfl) (fun _ _ _ h => h) rfl (fun wz hwz => ?_) ?_
  rotate_left
  ·go_simp; try (with_reducible rfl)
  simp only [Zp, Zq, Zr, Zs]
  refine WpX.vD 2 (some 176) ?_ rfl rfl (by kernel_rfl) (fun _ _ _ h => h) rfl (fun wz hwz => ?_) ?_
  rotate_left
  ·go_simp; try (with_reducible rfl)
  simp only [Zp, Zq, Zr, Zs]
  refine WpX.vD 3 (some 177) ?_ rfl rfl (by kernel_rfl) (fun _ _ _ h => h) rfl (fun wz hwz => ?_) ?_
  rotate_left
  ·go_simp; try (with_reducible rfl)
  simp only [Zp, Zq, Zr, Zs]
  refine WpX.vD 4 (some 178) ?_ rfl rfl (by kernel_rfl) (fun _ _ _ h => h) rfl (fun wz hwz => ?_) ?_
  rotate_left
  ·go_simp; try (with_reducible rfl)
  simp only [Zp, Zq, Zr, Zs]
  refine WpX.vD 7 (some 181) ?_ rfl rfl (by kernel_rfl) (fun _ _ _ h => h) rfl (fun wz hwz => ?_) ?_
  rotate_left
  ·go_simp; try (with_reducible rfl)
  simp only [Zp, Zq, Zr, Zs]
  refine WpX.vD 8 (some 182) ?_ rfl rfl (by kernel_rfl) (fun _ _ _ h => h) rfl (fun wz hwz => ?_) ?_
  rotate_left
  ·(have hz := HDD.out.exc (S := fun q => q = go) HN2.out hwz.1; obtain ⟨z0, z1, z2, z3, z4⟩ := V2.mk hz.c0 hz.c1 hz.f0 hz.f1 hz.lt; go_simp; try (with_reducible rfl))
  simp only [Zp, Zq, Zr, Zs]
  refine WpX.twoD 5 13 (some 179) (some 34) rfl rfl rfl rfl (by kernel_rfl) (fun b : Nat => Value.slice (some ⟨b, 0, none⟩) 1 1) (fun nb => (ApT w21 go (esK oa)) (some nb) none none) (fun nb => (ApK w21 w.heap.size go ni co (esK oa) [.slice none 0 0, .slice none 0 0] [.slice none 0 0, .slice none 0 0]) (some nb) none none false) (Turns.val rfl (fun _ _ h => h) (fun _ => (fun _ h => h.t)) (fun _ => ApK.clo) (fun wz hS => ⟨wz.heap.size, wz.alloc (.cells #[.int .u64 0, .int .u64 0] 55), by go_simp; try (with_reducible rfl), hS.mk1⟩)) (fun b : Nat => Value.pointer (some ⟨b, 0, none⟩)) (fun vb9 => (ApT w21 go (esK oa)) none none (some vb9)) (fun vb9 => (ApK w21 w.heap.size go ni co (esK oa) [.slice none 0 0, .slice none 0 0] [.slice none 0 0, .slice none 0 0]) none none (some vb9) false) (Turns.val rfl (fun _ _ h => h) (fun _ => (fun _ h => h.t)) (fun _ => ApK.clo) (fun wz hS => ⟨wz.heap.size, wz.alloc (.cells #[.slice none 0 0, .slice none 0 0] 44), by go_simp; try (with_reducible rfl), hS.mk3 _⟩)) (fun nb => ?rz20_8a) (fun vb9 => ?rz20_8b)
  case' rz20_8a =>
   simp only [Zp, Zq, Zr, Zs]
   refine WpX.twoD 6 13 (some 180) (some 34) rfl rfl rfl rfl (by kernel_rfl) (fun q : Nat × Nat => Value.slice (some ⟨q.1, 0, none⟩) (ni + 1) q.2) (fun apq => (ApT w21 go (esK oa)) (some nb) (some apq) none) (fun apq => (ApK w21 w.heap.size go ni co (esK oa) [.slice none 0 0, .slice none 0 0] [.slice none 0 0, .slice none 0 0]) (some nb) (some apq) none false) (Turns.val rfl (fun _ _ h => ⟨h.1, h.2.1, fun _ e => (by cases e)⟩) (fun _ => (fun _ h => h.t)) (fun _ => ApK.clo) (fun wz hS => by obtain ⟨g', c', w', hr, h1, h2, h3, h4, h5, hE, h6⟩ := run_append_two wz w.heap.size go ni co 27 (esK oa) HLA.out (hS.u rfl) nb 1 (0, 0) (hS.a nb rfl).2.1 (Nat.le_trans HW0.out hS.t.1.size) HK1.out; exact ⟨(g', c'), w', exec_append9 (.tmp 177) (.tmp 179) rfl rfl rfl hr, hS.mk2 (g', c') h1 h2 h3 (by rw [HLA.out]; exact h4) h5 hE h6⟩)) (fun b : Nat => Value.pointer (some ⟨b, 0, none⟩)) (fun vb9 => (ApT w21 go (esK oa)) (some nb) none (some vb9)) (fun vb9 => (ApK w21 w.heap.size go ni co (esK oa) [.slice none 0 0, .slice none 0 0] [.slice none 0 0, .slice none 0 0]) (some nb) none (some vb9) false) (Turns.val rfl (fun _ _ h => h) (fun _ => (fun _ h => h.t)) (fun _ => ApK.clo) (fun wz hS => ⟨wz.heap.size, wz.alloc (.cells #[.slice none 0 0, .slice none 0 0] 44), by go_simp; try (with_reducible rfl), hS.mk3 _⟩)) (fun apq => ?rz20_9a) (fun vb9 => ?rz20_9b)
   case' rz20_9a =>
    simp only [Zp, Zq, Zr, Zs]
    refine WpX.takeD 9 (some 183) rfl rfl (by kernel_rfl) (fun _ _ _ h => h) (.call rfl (fun wz hwz => HC20.out wz apq hwz) (fun wz hwz => ?_)) ?_
    ·go_simp; try (with_reducible rfl)
    simp only [Zp, Zq, Zr, Zs]
    refine WpX.vD 10 (some 173) ?_ rfl rfl (by kernel_rfl) (fun _ _ _ h => h) rfl (fun wz hwz => ?_) ?_
    rotate_left
    ·go_simp; try (with_reducible rfl)
    simp only [Zp, Zq, Zr, Zs]
    refine WpX.vD 11 (some 184) ?_ rfl rfl (by kernel_rfl) (fun _ _ _ h => h) rfl (fun wz hwz => ?_) ?_
    rotate_left
    ·go_simp; try (with_reducible rfl)
    simp only [Zp, Zq, Zr, Zs]
    refine WpX.vD 12 (some 185) ?_ rfl rfl (by kernel_rfl) (fun _ _ _ h => h) rfl (fun wz hwz => ?_) ?_
    rotate_left
    ·go_simp; try (with_reducible rfl)
    simp only [Zp, Zq, Zr, Zs]
    refine WpX.oneD 13 (some 34) rfl rfl (by kernel_rfl) (fun b : Nat => Value.pointer (some ⟨b, 0, none⟩)) (fun vb9 => (ApT w21 go (esK oa)) (some nb) (some apq) (some vb9)) (fun vb9 => (ApK w21 w.heap.size go ni co (esK oa) [.slice none 0 0, .slice none 0 0] [.slice none 0 0, .slice none 0 0]) (some nb) (some apq) (some vb9) false) (Turns.val rfl (fun _ _ h => h) (fun _ => (fun _ h => h.t)) (fun _ => ApK.clo) (fun wz hS => ⟨wz.heap.size, wz.alloc (.cells #[.slice none 0 0, .slice none 0 0] 44), by go_simp; try (with_reducible rfl), hS.mk3 _⟩)) (fun vb9 => ?_)
    simp only [Zp, Zq, Zr, Zs]
    refine WpX.oneSkip 14 none rfl rfl (by kernel_rfl) ((ApT w21 go (esK oa)) (some nb) (some apq) (some vb9)) ((ApK w21 w.heap.size go ni co (esK oa) [.slice none 0 0, .slice none 0 0] [.slice none 0 0, .slice none 0 0]) (some nb) (some apq) (some vb9) true) (fun _ h => h) ((fun _ h => h.t)) (ApK.clo) rfl (fun wz hS => ?_) ?_
    ·(have hv9 : Vs wz vb9 [.slice none 0 0, .slice none 0 0] := (hS.c vb9 rfl).2; have c0 := hv9.cell 0 _ rfl; have c1 := hv9.cell 1 _ rfl; have c2 := hv9.frz 0 (by simp); have c3 := hv9.frz 1 (by simp); have c4 := hv9.lt; exact ⟨(wz.setCell ⟨vb9, 0, none⟩ (.slice none 0 0)).setCell ⟨vb9, 1, none⟩ (.slice none 0 0), by go_simp; try (with_reducible rfl), hS.put2⟩)
    simp only [Act.put]
    refine WpX.done (by kernel_rfl) (fun w22 hS => ⟨nb, apq, vb9, rfl, ?_⟩)
    ·exact hS
   case' rz20_9b =>
    simp only [Zp, Zq, Zr, Zs]
    refine WpX.oneD 6 (some 180) rfl rfl (by kernel_rfl) (fun q : Nat × Nat => Value.slice (some ⟨q.1, 0, none⟩) (ni + 1) q.2) (fun apq => (ApT w21 go (esK oa)) (some nb) (some apq) (some vb9)) (fun apq => (ApK w21 w.heap.size go ni co (esK oa) [.slice none 0 0, .slice none 0 0] [.slice none 0 0, .slice none 0 0]) (some nb) (some apq) (some vb9) false) (Turns.val rfl (fun _ _ h => ⟨h.1, h.2.1, fun _ e => (by cases e)⟩) (fun _ => (fun _ h => h.t)) (fun _ => ApK.clo) (fun wz hS => by obtain ⟨g', c', w', hr, h1, h2, h3, h4, h5, hE, h6⟩ := run_append_two wz w.heap.size go ni co 27 (esK oa) HLA.out (hS.u rfl) nb 1 (0, 0) (hS.a nb rfl).2.1 (Nat.le_trans HW0.out hS.t.1.size) HK1.out; exact ⟨(g', c'), w', exec_append9 (.tmp 177) (.tmp 179) rfl rfl rfl hr, hS.mk2 (g', c') h1 h2 h3 (by rw [HLA.out]; exact h4) h5 hE h6⟩)) (fun apq => ?_)
    simp only [Zp, Zq, Zr, Zs]
    refine WpX.takeD 9 (some 183) rfl rfl (by kernel_rfl) (fun _ _ _ h => h) (.call rfl (fun wz hwz => HC20.out wz apq hwz) (fun wz hwz => ?_)) ?_
    ·go_simp; try (with_reducible rfl)
    simp only [Zp, Zq, Zr, Zs]
    refine WpX.vD 10 (some 173) ?_ rfl rfl (by kernel_rfl) (fun _ _ _ h => h) rfl (fun wz hwz => ?_) ?_
    rotate_left
    ·go_simp; try (with_reducible rfl)
    simp only [Zp, Zq, Zr, Zs]
    refine WpX.vD 11 (some 184) ?_ rfl rfl (by kernel_rfl) (fun _ _ _ h => h) rfl (fun wz hwz => ?_) ?_
    rotate_left
    ·go_simp; try (with_reducible rfl)
    simp only [Zp, Zq, Zr, Zs]
    refine WpX.vD 12 (some 185) ?_ rfl rfl (by kernel_rfl) (fun _ _ _ h => h) rfl (fun wz hwz => ?_) ?_
    rotate_left
    ·go_simp; try (with_reducible rfl)
    simp only [Zp, Zq, Zr, Zs]
    refine WpX.oneSkip 14 none rfl rfl (by kernel_rfl) ((ApT w21 go (esK oa)) (some nb) (some apq) (some vb9)) ((ApK w21 w.heap.size go ni co (esK oa) [.slice none 0 0, .slice none 0 0] [.slice none 0 0, .slice none 0 0]) (some nb) (some apq) (some vb9) true) (fun _ h => h) ((fun _ h => h.t)) (ApK.clo) rfl (fun wz hS => ?_) ?_
    ·(have hv9 : Vs wz vb9 [.slice none 0 0, .slice none 0 0] := (hS.c vb9 rfl).2; have c0 := hv9.cell 0 _ rfl; have c1 := hv9.cell 1 _ rfl; have c2 := hv9.frz 0 (by simp); have c3 := hv9.frz 1 (by simp); have c4 := hv9.lt; exact ⟨(wz.setCell ⟨vb9, 0, none⟩ (.slice none 0 0)).setCell ⟨vb9, 1, none⟩ (.slice none 0 0), by go_simp; try (with_reducible rfl), hS.put2⟩)
    simp only [Act.put]
    refine WpX.done (by kernel_rfl) (fun w22 hS => ⟨nb, apq, vb9, rfl, ?_⟩)
    ·exact hS
  case' rz20_8b =>
   simp only [Zp, Zq, Zr, Zs]
   refine WpX.oneD 5 (some 179) rfl rfl (by kernel_rfl) (fun b : Nat => Value.slice (some ⟨b, 0, none⟩) 1 1) (fun nb => (ApT w21 go (esK oa)) (some nb) none (some vb9)) (fun nb => (ApK w21 w.heap.size go ni co (esK oa) [.slice none 0 0, .slice none 0 0] [.slice none 0 0, .slice none 0 0]) (some nb) none (some vb9) false) (Turns.val rfl (fun _ _ h => h) (fun _ => (fun _ h => h.t)) (fun _ => ApK.clo) (fun wz hS => ⟨wz.heap.size, wz.alloc (.cells #[.int .u64 0, .int .u64 0] 55), by go_simp; try (with_reducible rfl), hS.mk1⟩)) (fun nb => ?_)
   simp only [Zp, Zq, Zr, Zs]
   refine WpX.oneD 6 (some 180) rfl rfl (by kernel_rfl) (fun q : Nat × Nat => Value.slice (some ⟨q.1, 0, none⟩) (ni + 1) q.2) (fun apq => (ApT w21 go (esK oa)) (some nb) (some apq) (some vb9)) (fun apq => (ApK w21 w.heap.size go ni co (esK oa) [.slice none 0 0, .slice none 0 0] [.slice none 0 0, .slice none 0 0]) (some nb) (some apq) (some vb9) false) (Turns.val rfl (fun _ _ h => ⟨h.1, h.2.1, fun _ e => (by cases e)⟩) (fun _ => (fun _ h => h.t)) (fun _ => ApK.clo) (fun wz hS => by obtain ⟨g', c', w', hr, h1, h2, h3, h4, h5, hE, h6⟩ := run_append_two wz w.heap.size go ni co 27 (esK oa) HLA.out (hS.u rfl) nb 1 (0, 0) (hS.a nb rfl).2.1 (Nat.le_trans HW0.out hS.t.1.size) HK1.out; exact ⟨(g', c'), w', exec_append9 (.tmp 177) (.tmp 179) rfl rfl rfl hr, hS.mk2 (g', c') h1 h2 h3 (by rw [HLA.out]; exact h4) h5 hE h6⟩)) (fun apq => ?_)
   simp only [Zp, Zq, Zr, Zs]
   refine WpX.takeD 9 (some 183) rfl rfl (by kernel_rfl) (fun _ _ _ h => h) (.call rfl (fun wz hwz => HC20.out wz apq hwz) (fun wz hwz => ?_)) ?_
   ·go_simp; try (with_reducible rfl)
   simp only [Zp, Zq, Zr, Zs]
   refine WpX.vD 10 (some 173) ?_ rfl rfl (by kernel_rfl) (fun _ _ _ h => h) rfl (fun wz hwz => ?_) ?_
   rotate_left
   ·go_simp; try (with_reducible rfl)
   simp only [Zp, Zq, Zr, Zs]
   refine WpX.vD 11 (some 184) ?_ rfl rfl (by kernel_rfl) (fun _ _ _ h => h) rfl (fun wz hwz => ?_) ?_
   rotate_left
   ·go_simp; try (with_reducible rfl)
   simp only [Zp, Zq, Zr, Zs]
   refine WpX.vD 12 (some 185) ?_ rfl rfl (by kernel_rfl) (fun _ _ _ h => h) rfl (fun wz hwz => ?_) ?_
   rotate_left
   ·go_simp; try (with_reducible rfl)
   simp only [Zp, Zq, Zr, Zs]
   refine WpX.oneSkip 14 none rfl rfl (by kernel_rfl) ((ApT w21 go (esK oa)) (some nb) (some apq) (some vb9)) ((ApK w21 w.heap.size go ni co (esK oa) [.slice none 0 0, .slice none 0 0] [.slice none 0 0, .slice none 0 0]) (some nb) (some apq) (some vb9) true) (fun _ h => h) ((fun _ h => h.t)) (ApK.clo) rfl (fun wz hS => ?_) ?_
   ·(have hv9 : Vs wz vb9 [.slice none 0 0, .slice none 0 0] := (hS.c vb9 rfl).2; have c0 := hv9.cell 0 _ rfl; have c1 := hv9.cell 1 _ rfl; have c2 := hv9.frz 0 (by simp); have c3 := hv9.frz 1 (by simp); have c4 := hv9.lt; exact ⟨(wz.setCell ⟨vb9, 0, none⟩ (.slice none 0 0)).setCell ⟨vb9, 1, none⟩ (.slice none 0 0), by go_simp; try (with_reducible rfl), hS.put2⟩)
   simp only [Act.put]
   refine WpX.done (by kernel_rfl) (fun w22 hS => ⟨nb, apq, vb9, rfl, ?_⟩)
   ·exact hS
 intro nb apq vb9 w22 hS
 (try simp only [List.drop_succ_cons]); (try simp only [List.drop_zero]); (try simp only [Nat.reduceSub]); (try simp only [List.take_succ_cons]); (try simp only [List.take_zero])
 have hE22 := hS.t.1
 clear hS HTT HDD HOI HXI HXP HX1 HX2 hoo21
 replace hT := hT.exc (S := fun q => q = go) (fun h => by have h2 : _ = go := h; omega) hE22
 replace hD := hD.exc (S := fun q => q = go) (fun h => by have h2 : _ = go := h; omega) hE22
 replace hX := hX.exc (S := fun q => q = go) (fun h => by have h2 : _ = go := h; omega) hE22
 replace hZ := hZ.exc (S := fun q => q = go) (fun h => by have h2 : _ = go := h; omega) hE22
 replace hu := hu.excLo (S := fun q => q = go) LU.out (fun q h => by have h2 : q = go := h; omega) hE22
 replace hx := hx.excLo (S := fun q => q = go) LX.out (fun q h => by have h2 : q = go := h; omega) hE22
 replace hu3 := hu3.excLo (S := fun q => q = go) LU3.out (fun q h => by have h2 : q = go := h; omega) hE22
 replace hx3 := hx3.excLo (S := fun q => q = go) LX3.out (fun q h => by have h2 : q = go := h; omega) hE22
 replace hB1 := hB1.exc (S := fun q => q = go) (fun h => by have h2 : _ = go := h; omega) hE22
 replace hB2 := hB2.exc (S := fun q => q = go) (fun h => by have h2 : _ = go := h; omega) hE22
 replace hb00 := hb00.trans ((hE22.mono hb00.size).below fun k hk h => by have h2 : k = go := h; omega)
 clear hE22 HN1 HN2 HLA HK1 HLEN HW0 hT hD hB1 hB2
 go_upto_region 21 with fail
 obtain ⟨⟨X0, X1, X2, X3⟩, ⟨X4, X5, X6, X7⟩, X8⟩ := hX.get4
 obtain ⟨⟨Z0, Z1, Z2, Z3⟩, ⟨Z4, Z5, Z6, Z7⟩, Z8⟩ := hZ.get4
 have hflag : True := trivial
 go_wp2_with (first
  | (go_at_call 12; clear hflag; refine (HSAM.out _ _ _ _ hu hu3).mono ?_; rintro e w23 ⟨rfl, hb23⟩; replace hb00 := bl_call hb00 (Nat.le_refl _) hb23; replace hX := hX.call hb23; replace hZ := hZ.call hb23; replace hx := hx.later hb23; replace hx3 := hx3.later hb23; clear X0 X1 X2 X3 X4 X5 X6 X7 X8 Z0 Z1 Z2 Z3 Z4 Z5 Z6 Z7 Z8; obtain ⟨⟨X0, X1, X2, X3⟩, ⟨X4, X5, X6, X7⟩, X8⟩ := hX.get4; obtain ⟨⟨Z0, Z1, Z2, Z3⟩, ⟨Z4, Z5, Z6, Z7⟩, Z8⟩ := hZ.get4)
  | (go_at_call 12; refine (HSAM.out _ _ _ _ hx hx3).mono ?_; rintro e w24 ⟨rfl, hb24⟩; replace hb00 := bl_call hb00 (Nat.le_refl _) hb24))
 go_ret
 exact ⟨rfl, hb00⟩

end Go.Proofs.Ytpggflcapfkgpaa
