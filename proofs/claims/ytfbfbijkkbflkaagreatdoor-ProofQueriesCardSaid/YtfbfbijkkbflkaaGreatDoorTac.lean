/-
 PfQW, Task, Bytes, Swap, PfU: for ProofQueries.
-/
import Derived.Laws.BytesArg
import Derived.Test.YtfbfbijkkbflkaaGreatDoorTab
namespace Go.Proofs.YtfbfbijkkbflkaaGreatDoor
open Go.RowKit Fm
set_option linter.unusedVariables false
set_option maxRecDepth 100000

section
variable {f : Nat} (hf : IsF f)
include hf

set_option maxHeartbeats 8000000 in
theorem proof_Query (y : CK) (hy : y.ok) (hcl : y.calls ≤ 255) (L : Nat) (hL : L ≤ 8) (hN : nextP (y.calls + 1) = 2 ^ L) (sh : Nat) (hsh : sh = 1 ∨ sh = 2) (v p j : KL f) (hl : v.length = y.nin) (hjl : j.length = y.joint) (hpl : p.length = y.proof) (x : Fin (Pm f)) (vl vj : Value) (bp op c : Nat) (w : World) (hT : TabW w)
  (hv : SlX (fun q => q = bp) w vl v) (hj : SlX (fun q => q = bp) w vj j) (hp : SlK w w.heap.size (.slice (some ⟨bp, op, none⟩) y.proof c) p) :
  Calls Tryz.prog 24 #[y.val f, vl, .slice (some ⟨bp, op, none⟩) y.proof c, vj, vK x, .int .i64 (sh : Int)] w (RetQy y L v j (kinv (nK f sh)) p x w) := by
 obtain ⟨part, hpart⟩ : ∃ part, kinv (nK f sh) = part := ⟨_, rfl⟩
 rw [hpart]
 have HCHK : Hid (∀ wz, Calls Tryz.prog 48 #[y.val f] wz (RetC 0 wz)) := fun wz => by
  have h := circuit_Check_ok hf y hy wz
  rwa [CK.code_ok (by omega)] at h
 have HGAD : Hid (∀ wz, Calls Tryz.prog 27 #[y.val f] wz (RetG2 (y.gad f) wz)) := fun wz => circuit_Gadget2 hf y hy wz
 have hal := CK.arity_le hy
 have hga := gad_arity f y
 have HARI : Hid (∀ wz (B : Nat) (k : Int) (sl : Value) (n : Int), RepG wz B k sl n (y.gad f) → Calls Tryz.prog 28 #[.agg #[.int .u8 k, sl, .int .i64 n]] wz fun e w' => e = .returned (.int .i64 (y.arity : Nat)) ∧ Below wz.heap.size wz w') := fun wz B k sl n h => by
  have h2 := gadget_Arity wz B (y.gad f) k sl n h
  rwa [hga] at h2
 have hN4 := (nextP_le (y.calls + 1)).2
 have h8 : 2 ^ L ≤ 256 := Nat.le_trans (Nat.pow_le_pow_right (by omega) hL) (by decide)
 have h81 := Nat.two_pow_pos L
 obtain ⟨L', hL', hN', hN2'⟩ := nextP_pow (y.calls + 1) (by omega)
 have hcN : y.calls + 1 ≤ 2 ^ L := by rw [← hN, hN']; exact hN2'
 have HPRF : Hid (∀ wz, Calls Tryz.prog 21 #[y.val f] wz (RetI y.proof wz)) := fun wz => circuit_Proof hf y hy (by omega) wz
 have hcp := CK.calls_pos hy
 have hpr1 : y.arity + 3 ≤ y.proof := by
  show y.arity + 3 ≤ y.arity + 2 * (nextP (y.calls + 1) - 1) + 1
  rw [hN]
  omega
 have hpr2 : y.proof ≤ 10000 := by
  show y.arity + 2 * (nextP (y.calls + 1) - 1) + 1 ≤ _
  omega
 have hseed : (p.take y.arity).length = y.arity := by rw [List.length_take]; omega
 have HBEG : Hid (∀ wz vs, SlK wz wz.heap.size vs (p.take y.arity) → Calls Tryz.prog 64 #[y.val f, vs] wz (RetBeg (2 ^ L) (p.take y.arity) wz)) := fun wz vs h => by
  have h2 := proof_begin y hy (by omega) vs (p.take y.arity) wz h (by omega) (by omega)
  rwa [hN] at h2
 have HDOM : Hid (∀ wz, Calls Tryz.prog 30 #[y.val f] wz (RetI (2 ^ L) wz)) := fun wz => by
  have h := circuit_Domain f y hy (by omega) wz
  rwa [hN] at h
 have HLG : Hid (∀ wz, Below w.heap.size w wz → Calls Tryz.prog 29 #[.int .i64 ((2 ^ L : Nat) : Int)] wz fun e w' => e = .returned (.tuple #[.int .i64 L, .bool true]) ∧ wz = w') := fun wz h => ntt_Log_ok L (by omega) wz (hT.call h)
 have HPT := Lib.hid (fun wz => ntt_Points hf L (by omega) wz)
 have HWT := Lib.hid (fun wz => poly_Weights hf L (by omega) x wz)
 have HRUN : Hid (∀ (wz : World) (E : Nat → Prop) (wE : World) (pb cb fb qb tb wb : Nat) (vq vt : Value) (D : Nat → Prop),
   CapQ E wE pb fb qb tb wb vq vt (p.drop y.arity) (pows (rootK f L) (2 ^ L)) → ¬ E cb → SlX D wz vl v → SlX D wz vj j →
   St (InvQ wb (2 ^ L) cb E wE (linesA (p.take y.arity) (argOf y v j part) y.arity) 0) D wz →
   Calls Tryz.prog 32 #[y.val f, vl, vj, .int .i64 (sh : Int), .func (.func 65) #[] #[.pointer (some ⟨pb, 0, none⟩), .pointer (some ⟨cb, 0, none⟩), .pointer (some ⟨fb, 0, none⟩), .pointer (some ⟨qb, 0, none⟩), .pointer (some ⟨tb, 0, none⟩)]] wz fun e w' =>
    e = .returned (.tuple #[vK (runF y v j part (ansQ L (p.drop y.arity))), .int .i64 0]) ∧ Exc D wz.heap.size wz w' ∧ ∃ D', St (InvQ wb (2 ^ L) cb E wE (linesA (p.take y.arity) (argOf y v j part) y.arity) y.calls) D' w' ∧ ∀ q, D' q → D q ∨ wz.heap.size ≤ q) := fun wz E wE pb cb fb qb tb wb vq vt D hC hcE h1 h2 h3 => by
  have h := circuit_RunOk hf y hy (by omega) part sh hsh hpart.symm v j _ _ D _ _ 0 (asked_query hf y hy (by omega) v j (p.take y.arity) (p.drop y.arity) part L hN E wE pb cb fb qb tb wb vq vt hC hcE (by rw [List.length_drop]; omega)) hl hjl vl vj wz h1 h2 h3
  refine h.mono ?_
  rintro e w' ⟨⟨_, rfl, D', hst, hD⟩ | ⟨h0, _⟩, hE⟩
  ·exact ⟨rfl, hE, D', hst, hD⟩
  ·exact absurd rfl h0
 have HFUL : Hid (∀ (wz : World) (wb lb cp : Nat) (us : List Value), WrI wb lb cp (2 ^ L) us (linesA (p.take y.arity) (argOf y v j part) y.arity y.calls) wz → Calls Tryz.prog 68 #[.pointer (some ⟨wb, 0, none⟩)] wz (RetFull ((linesA (p.take y.arity) (argOf y v j part) y.arity y.calls).map fun l => l ++ List.replicate (2 ^ L - (y.calls + 1)) 0) wz)) := fun wz wb lb cp us h =>
  proof_full wb lb cp (2 ^ L) (y.calls + 1) us _ wz h (fun i l h => linesA_at _ _ _ _ _ _ h) (by omega) hcN (by omega) (by rw [linesA_length]; omega)
 have HDOT : Hid (Fm.kpow x (2 ^ L) ≠ 1 → ∀ (wz : World) (vw u : Value) (l : KL f) (z : Fin (Pm f)), ev x (coefsK L l) = z → l.length = 2 ^ L → SlK wz wz.heap.size vw (wts L x) → SlK wz wz.heap.size u l → Calls Tryz.prog 69 #[.int .u8 f, vw, u] wz (RetK0 z wz)) := fun hx wz vw u l z hz hl h1 h2 => by
  have hw : (wts L x).length = 2 ^ L := ofF_length ..
  have h := field_Dot hf vw u (wts L x) l wz h1 h2 (by rw [hw, hl]) (by rw [hw]; omega)
  rw [hw, lag_sum L (by omega) x l hl hx, hz] at h
  exact h
 obtain ⟨N, hNN⟩ : ∃ N, 2 ^ L = N := ⟨_, rfl⟩
 have HNN := Lib.hid hNN
 have HWTL : Hid ((wts L x).length = N) := (ofF_length ..).trans hNN
 have HPTL : Hid ((pows (rootK f L) (2 ^ L)).length = N) := (ofF_length ..).trans hNN
 rw [hNN] at HDOM HLG
 have HATP : Hid (∀ (wz : World) (u : Value) (z : Fin (Pm f)), ev x (p.drop y.arity) = z → SlK wz wz.heap.size u (p.drop y.arity) → Calls Tryz.prog 67 #[.int .u8 f, u, .agg #[.int .u64 (lo x), .int .u64 (hi x)]] wz (RetK z wz)) := fun wz u z hz h => by
  rw [← hz]
  exact poly_At hf u (p.drop y.arity) x wz h (by rw [List.length_drop]; omega)
 have hlz : linesA (p.take y.arity) (argOf y v j part) y.arity 0 = (p.take y.arity).map fun x => [x] := linesA_zero _ _ _ hseed
 have HRQ : Hid (∀ e w', RetQy y L v j part p x w e w' ↔ ((Fm.kpow x (2 ^ L) = 1 ∧ RetE9 12 w e w') ∨ (Fm.kpow x (2 ^ L) ≠ 1 ∧ RetSq0 (runF y v j part (ansQ L (p.drop y.arity)) :: ((polysA L (p.take y.arity) (argOf y v j part) y.calls y.arity).map (ev x) ++ [ev x (p.drop y.arity)])) w e w'))) := fun _ _ => Iff.rfl
 rw [← hpl] at hp
 obtain ⟨A, c', hve, hpc, hpm, hA⟩ := id hp
 obtain ⟨bp', op', hbe, hbpl, hprow⟩ := hA (by omega)
 injection hve with e1 e2 e3
 rw [hbe] at e1
 injection e1 with e1
 injection e1 with e4 e5 e6
 subst e3
 subst e4
 subst e5
 have HTK : Hid (SlK w w.heap.size (.slice (some ⟨bp, op, none⟩) y.arity c) (p.take y.arity)) := hp.takeN (by omega) _ rfl
 have HDR : Hid (SlK w w.heap.size (.slice (some ⟨bp, op + y.arity * 2, none⟩) (y.proof - y.arity) (c - y.arity)) (p.drop y.arity)) := by
  have h := hp.dropN (n := y.arity) (by omega)
  rw [hpl] at h
  exact h
 have HV := Lib.hid hv
 have HJ := Lib.hid hj
 have HLZ := Lib.hid hlz
 have HPN : Hid ((p.drop y.arity).length = y.proof - y.arity) := by show _ = _; rw [List.length_drop, hpl]
 rw [hpl] at hpc
 clear hprow hA hp e2 e6 hbe hlz hv hj hN hT hl hjl hpl hN4 hN' hN2' hL' hcl hpart hsh hga
 unfold CK.val at HCHK HGAD HBEG HRUN HPRF HDOM ⊢
 generalize y.gad f = gd at *
 generalize argOf y v j part = args at *
 generalize y.calls = nc at *
 generalize y.proof = tot at *
 generalize y.arity = ar at *
 generalize runF y v j part (ansQ L (p.drop ar)) = out at *
 generalize ((y.k : Nat) : Int) = K at *
 generalize ((y.b : Nat) : Int) = B at *
 generalize ((y.l : Nat) : Int) = NN at *
 generalize ((y.m : Nat) : Int) = M at *
 generalize ((y.c : Nat) : Int) = C at *
 have g1 : (0 : Int) ≤ (ar : Int) := by omega
 have g2 : ar ≤ c := by omega
 have g3 : (ar : Int) ≤ (c : Int) := by omega
 have g4 : (ar : Int) ≤ (tot : Int) := by omega
 have g5 : ar ≤ tot := by omega
 have g6 : ¬ (c = ar) := by omega
 have HAL : Hid (1 ≤ ar ∧ ar ≤ 32) := hal
 have H8 : Hid (1 ≤ N ∧ N ≤ 256) := ⟨by omega, by omega⟩
 have H82 : Hid (2 ≤ 2 ^ L) := by show 2 ≤ 2 ^ L; omega
 have HNC := Lib.hid hcN
 have HTOT : Hid (ar + 3 ≤ tot ∧ tot ≤ 10000) := ⟨hpr1, hpr2⟩
 have HSE := Lib.hid hseed
 have HPB : Hid (bp < w.heap.size) := hbpl
 clear hy h8 h81 hcN hpr1 hpr2 hseed hbpl hal hpm hNN hcp
 have hfb0 : (1 : Int) ≤ (f : Int) := by rcases hf.or with rfl | rfl <;> omega
 have hfb1 : (f : Int) ≤ 2 := by rcases hf.or with rfl | rfl <;> omega
 go_enter Tryz.func24, Tryz.ntmps24
 go_upto_region 1 with fail
 have hyy := (Vs.new w [.int .u8 K, .int .u8 f, .int .i64 B, .int .i64 NN, .int .i64 M, .int .i64 C] #[.int .u8 K, .int .u8 f, .int .i64 B, .int .i64 NN, .int .i64 M, .int .i64 C] 30 rfl).alloc (.cells #[.int .u64 (lo x), .int .u64 (hi x)] 36)
 have hxx := V2.new (w.alloc (.cells #[.int .u8 K, .int .u8 f, .int .i64 B, .int .i64 NN, .int .i64 M, .int .i64 C] 30)) (.int .u64 (lo x)) (.int .u64 (hi x)) 36
 simp only [World.size_alloc] at hxx
 have hb00 : Below w.heap.size w ((w.alloc (.cells #[.int .u8 K, .int .u8 f, .int .i64 B, .int .i64 NN, .int .i64 M, .int .i64 C] 30)).alloc (.cells #[.int .u64 (lo x), .int .u64 (hi x)] 36)) := by repeat (first | exact bA | with_reducible assumption | apply bB)
 have hszn : w.heap.size + 2 ≤ ((w.alloc (.cells #[.int .u8 K, .int .u8 f, .int .i64 B, .int .i64 NN, .int .i64 M, .int .i64 C] 30)).alloc (.cells #[.int .u64 (lo x), .int .u64 (hi x)] 36)).heap.size := by simp only [World.size_alloc]; omega
 generalize ((w.alloc (.cells #[.int .u8 K, .int .u8 f, .int .i64 B, .int .i64 NN, .int .i64 M, .int .i64 C] 30)).alloc (.cells #[.int .u64 (lo x), .int .u64 (hi x)] 36)) = w1 at hyy hxx hb00 hszn ⊢
 obtain ⟨⟨yy0, yy1, yy2, yy3, yy4, yy5⟩, ⟨yy6, yy7, yy8, yy9, yy10, yy11⟩, yy12⟩ := hyy.get6
 go_upto_region 2 with (go_at_call 48; refine (HCHK.out _).mono ?_; rintro e w2 ⟨rfl, hb2⟩)
 clear yy0 yy1 yy2 yy3 yy4 yy5 yy6 yy7 yy8 yy9 yy10 yy11 yy12
 replace hb00 := bl_call hb00 (Nat.le_refl _) hb2
 replace hyy := hyy.call hb2
 replace hxx := hxx.call hb2
 clear hb2
 have hb3 : Below w2.heap.size w2 w2 := Below.refl _ _
 go_upto_region 4 with fail
 have HYY := Lib.hid hyy
 have HXX := Lib.hid hxx
 have HB2 := Lib.hid hb00
 clear hyy hxx hb3
 apply region_Z3 (n := 6) (m := 8) (f := 6) (fun x0 x1 x2 => (QyK w2 gd) (some x0) (some x1) (some x2) ) ((QyT w2 gd) none none none) ((QyK w2 gd) none none none) ((fun _ h => h.t)) (QyK.clo) ((QyK.start w2 gd))
 case hm => kernel_rfl
 case hB => kernel_rfl
 case hf => rfl
 case' h =>
  refine WpX.vD 0 (some 36) ?_ rfl rfl (by kernel_rfl) (fun _ _ _ h => h) rfl (fun wz hwz => ?_) ?_
  rotate_left
  ·go_simp; try (with_reducible rfl)
  simp only [Zp, Zq, Zr, Zs]
  refine WpX.vD 1 (some 37) ?_ rfl rfl (by kernel_rfl) (fun _ _ _ h => h) rfl (fun wz hwz => ?_) ?_
  rotate_left
  ·(have hz := (HYY.out.call hwz).get6; obtain ⟨⟨z0, z1, z2, z3, z4, z5⟩, ⟨y0, y1, y2, y3, y4, y5⟩, y6⟩ := hz; go_simp; try (with_reducible rfl))
  simp only [Zp, Zq, Zr, Zs]
  refine WpX.vD 2 (some 38) ?_ rfl rfl (by kernel_rfl) (fun _ _ _ h => h) rfl (fun wz hwz => ?_) ?_
  rotate_left
  ·(have hz := (HYY.out.call hwz).get6; obtain ⟨⟨z0, z1, z2, z3, z4, z5⟩, ⟨y0, y1, y2, y3, y4, y5⟩, y6⟩ := hz; go_simp; try (with_reducible rfl))
  simp only [Zp, Zq, Zr, Zs]
  refine WpX.threeD 3 4 5 (some 39) (some 15) (some 16) rfl rfl rfl rfl rfl rfl (by kernel_rfl) (fun q : Int × Value × Int => Value.agg #[.int .u8 q.1, q.2.1, .int .i64 q.2.2]) (fun gq => (QyT w2 gd) (some gq) none none) (fun gq => (QyK w2 gd) (some gq) none none) (Turns.call rfl (fun _ _ h => h) (fun _ => (fun _ h => h.t)) (fun _ => QyK.clo) (fun wz hS => (HGAD.out wz).mono fun e w' ⟨k, sl, n, he, hr, hb, hn⟩ => ⟨(k, sl, n), he, hS.mk1 (k, sl, n) hr hb hn⟩) (fun wz hS => by go_simp; try (with_reducible rfl))) (fun b : Nat => Value.pointer (some ⟨b, 0, none⟩)) (fun fb => (QyT w2 gd) none (some fb) none) (fun fb => (QyK w2 gd) none (some fb) none) (Turns.val rfl (fun _ _ h => h) (fun _ => (fun _ h => h.t)) (fun _ => QyK.clo) (fun wz hS => ⟨wz.heap.size, wz.alloc (.cells #[.int .u8 0] 28), by go_simp; try (with_reducible rfl), hS.mk2⟩)) (fun b : Nat => Value.pointer (some ⟨b, 0, none⟩)) (fun gb => (QyT w2 gd) none none (some gb)) (fun gb => (QyK w2 gd) none none (some gb)) (Turns.val rfl (fun _ _ h => h) (fun _ => (fun _ h => h.t)) (fun _ => QyK.clo) (fun wz hS => ⟨wz.heap.size, wz.alloc (.cells #[.int .u8 0, .slice none 0 0, .int .i64 0] 54), by go_simp; try (with_reducible rfl), hS.mk3⟩)) (fun gq => ?rz4_5a) (fun fb => ?rz4_5b) (fun gb => ?rz4_5c)
  case' rz4_5a =>
   simp only [Zp, Zq, Zr, Zs]
   refine WpX.twoD 4 5 (some 15) (some 16) rfl rfl rfl rfl (by kernel_rfl) (fun b : Nat => Value.pointer (some ⟨b, 0, none⟩)) (fun fb => (QyT w2 gd) (some gq) (some fb) none) (fun fb => (QyK w2 gd) (some gq) (some fb) none) (Turns.val rfl (fun _ _ h => h) (fun _ => (fun _ h => h.t)) (fun _ => QyK.clo) (fun wz hS => ⟨wz.heap.size, wz.alloc (.cells #[.int .u8 0] 28), by go_simp; try (with_reducible rfl), hS.mk2⟩)) (fun b : Nat => Value.pointer (some ⟨b, 0, none⟩)) (fun gb => (QyT w2 gd) (some gq) none (some gb)) (fun gb => (QyK w2 gd) (some gq) none (some gb)) (Turns.val rfl (fun _ _ h => h) (fun _ => (fun _ h => h.t)) (fun _ => QyK.clo) (fun wz hS => ⟨wz.heap.size, wz.alloc (.cells #[.int .u8 0, .slice none 0 0, .int .i64 0] 54), by go_simp; try (with_reducible rfl), hS.mk3⟩)) (fun fb => ?rz4_6a) (fun gb => ?rz4_6b)
   case' rz4_6a =>
    simp only [Zp, Zq, Zr, Zs]
    refine WpX.oneD 5 (some 16) rfl rfl (by kernel_rfl) (fun b : Nat => Value.pointer (some ⟨b, 0, none⟩)) (fun gb => (QyT w2 gd) (some gq) (some fb) (some gb)) (fun gb => (QyK w2 gd) (some gq) (some fb) (some gb)) (Turns.val rfl (fun _ _ h => h) (fun _ => (fun _ h => h.t)) (fun _ => QyK.clo) (fun wz hS => ⟨wz.heap.size, wz.alloc (.cells #[.int .u8 0, .slice none 0 0, .int .i64 0] 54), by go_simp; try (with_reducible rfl), hS.mk3⟩)) (fun gb => ?_)
    simp only [Zp, Zq, Zr, Zs]
    refine WpX.done (by kernel_rfl) (fun w5 hS => ⟨gq, fb, gb, rfl, ?_⟩)
    ·exact hS
   case' rz4_6b =>
    simp only [Zp, Zq, Zr, Zs]
    refine WpX.oneD 4 (some 15) rfl rfl (by kernel_rfl) (fun b : Nat => Value.pointer (some ⟨b, 0, none⟩)) (fun fb => (QyT w2 gd) (some gq) (some fb) (some gb)) (fun fb => (QyK w2 gd) (some gq) (some fb) (some gb)) (Turns.val rfl (fun _ _ h => h) (fun _ => (fun _ h => h.t)) (fun _ => QyK.clo) (fun wz hS => ⟨wz.heap.size, wz.alloc (.cells #[.int .u8 0] 28), by go_simp; try (with_reducible rfl), hS.mk2⟩)) (fun fb => ?_)
    simp only [Zp, Zq, Zr, Zs]
    refine WpX.done (by kernel_rfl) (fun w5 hS => ⟨gq, fb, gb, rfl, ?_⟩)
    ·exact hS
  case' rz4_5b =>
   simp only [Zp, Zq, Zr, Zs]
   refine WpX.twoD 3 5 (some 39) (some 16) rfl rfl rfl rfl (by kernel_rfl) (fun q : Int × Value × Int => Value.agg #[.int .u8 q.1, q.2.1, .int .i64 q.2.2]) (fun gq => (QyT w2 gd) (some gq) (some fb) none) (fun gq => (QyK w2 gd) (some gq) (some fb) none) (Turns.call rfl (fun _ _ h => h) (fun _ => (fun _ h => h.t)) (fun _ => QyK.clo) (fun wz hS => (HGAD.out wz).mono fun e w' ⟨k, sl, n, he, hr, hb, hn⟩ => ⟨(k, sl, n), he, hS.mk1 (k, sl, n) hr hb hn⟩) (fun wz hS => by go_simp; try (with_reducible rfl))) (fun b : Nat => Value.pointer (some ⟨b, 0, none⟩)) (fun gb => (QyT w2 gd) none (some fb) (some gb)) (fun gb => (QyK w2 gd) none (some fb) (some gb)) (Turns.val rfl (fun _ _ h => h) (fun _ => (fun _ h => h.t)) (fun _ => QyK.clo) (fun wz hS => ⟨wz.heap.size, wz.alloc (.cells #[.int .u8 0, .slice none 0 0, .int .i64 0] 54), by go_simp; try (with_reducible rfl), hS.mk3⟩)) (fun gq => ?rz4_7a) (fun gb => ?rz4_7b)
   case' rz4_7a =>
    simp only [Zp, Zq, Zr, Zs]
    refine WpX.oneD 5 (some 16) rfl rfl (by kernel_rfl) (fun b : Nat => Value.pointer (some ⟨b, 0, none⟩)) (fun gb => (QyT w2 gd) (some gq) (some fb) (some gb)) (fun gb => (QyK w2 gd) (some gq) (some fb) (some gb)) (Turns.val rfl (fun _ _ h => h) (fun _ => (fun _ h => h.t)) (fun _ => QyK.clo) (fun wz hS => ⟨wz.heap.size, wz.alloc (.cells #[.int .u8 0, .slice none 0 0, .int .i64 0] 54), by go_simp; try (with_reducible rfl), hS.mk3⟩)) (fun gb => ?_)
    simp only [Zp, Zq, Zr, Zs]
    refine WpX.done (by kernel_rfl) (fun w5 hS => ⟨gq, fb, gb, rfl, ?_⟩)
    ·exact hS
   case' rz4_7b =>
    simp only [Zp, Zq, Zr, Zs]
    refine WpX.oneD 3 (some 39) rfl rfl (by kernel_rfl) (fun q : Int × Value × Int => Value.agg #[.int .u8 q.1, q.2.1, .int .i64 q.2.2]) (fun gq => (QyT w2 gd) (some gq) (some fb) (some gb)) (fun gq => (QyK w2 gd) (some gq) (some fb) (some gb)) (Turns.call rfl (fun _ _ h => h) (fun _ => (fun _ h => h.t)) (fun _ => QyK.clo) (fun wz hS => (HGAD.out wz).mono fun e w' ⟨k, sl, n, he, hr, hb, hn⟩ => ⟨(k, sl, n), he, hS.mk1 (k, sl, n) hr hb hn⟩) (fun wz hS => by go_simp; try (with_reducible rfl))) (fun gq => ?_)
    simp only [Zp, Zq, Zr, Zs]
    refine WpX.done (by kernel_rfl) (fun w5 hS => ⟨gq, fb, gb, rfl, ?_⟩)
    ·exact hS
  case' rz4_5c =>
   simp only [Zp, Zq, Zr, Zs]
   refine WpX.twoD 3 4 (some 39) (some 15) rfl rfl rfl rfl (by kernel_rfl) (fun q : Int × Value × Int => Value.agg #[.int .u8 q.1, q.2.1, .int .i64 q.2.2]) (fun gq => (QyT w2 gd) (some gq) none (some gb)) (fun gq => (QyK w2 gd) (some gq) none (some gb)) (Turns.call rfl (fun _ _ h => h) (fun _ => (fun _ h => h.t)) (fun _ => QyK.clo) (fun wz hS => (HGAD.out wz).mono fun e w' ⟨k, sl, n, he, hr, hb, hn⟩ => ⟨(k, sl, n), he, hS.mk1 (k, sl, n) hr hb hn⟩) (fun wz hS => by go_simp; try (with_reducible rfl))) (fun b : Nat => Value.pointer (some ⟨b, 0, none⟩)) (fun fb => (QyT w2 gd) none (some fb) (some gb)) (fun fb => (QyK w2 gd) none (some fb) (some gb)) (Turns.val rfl (fun _ _ h => h) (fun _ => (fun _ h => h.t)) (fun _ => QyK.clo) (fun wz hS => ⟨wz.heap.size, wz.alloc (.cells #[.int .u8 0] 28), by go_simp; try (with_reducible rfl), hS.mk2⟩)) (fun gq => ?rz4_8a) (fun fb => ?rz4_8b)
   case' rz4_8a =>
    simp only [Zp, Zq, Zr, Zs]
    refine WpX.oneD 4 (some 15) rfl rfl (by kernel_rfl) (fun b : Nat => Value.pointer (some ⟨b, 0, none⟩)) (fun fb => (QyT w2 gd) (some gq) (some fb) (some gb)) (fun fb => (QyK w2 gd) (some gq) (some fb) (some gb)) (Turns.val rfl (fun _ _ h => h) (fun _ => (fun _ h => h.t)) (fun _ => QyK.clo) (fun wz hS => ⟨wz.heap.size, wz.alloc (.cells #[.int .u8 0] 28), by go_simp; try (with_reducible rfl), hS.mk2⟩)) (fun fb => ?_)
    simp only [Zp, Zq, Zr, Zs]
    refine WpX.done (by kernel_rfl) (fun w5 hS => ⟨gq, fb, gb, rfl, ?_⟩)
    ·exact hS
   case' rz4_8b =>
    simp only [Zp, Zq, Zr, Zs]
    refine WpX.oneD 3 (some 39) rfl rfl (by kernel_rfl) (fun q : Int × Value × Int => Value.agg #[.int .u8 q.1, q.2.1, .int .i64 q.2.2]) (fun gq => (QyT w2 gd) (some gq) (some fb) (some gb)) (fun gq => (QyK w2 gd) (some gq) (some fb) (some gb)) (Turns.call rfl (fun _ _ h => h) (fun _ => (fun _ h => h.t)) (fun _ => QyK.clo) (fun wz hS => (HGAD.out wz).mono fun e w' ⟨k, sl, n, he, hr, hb, hn⟩ => ⟨(k, sl, n), he, hS.mk1 (k, sl, n) hr hb hn⟩) (fun wz hS => by go_simp; try (with_reducible rfl))) (fun gq => ?_)
    simp only [Zp, Zq, Zr, Zs]
    refine WpX.done (by kernel_rfl) (fun w5 hS => ⟨gq, fb, gb, rfl, ?_⟩)
    ·exact hS
 intro gq fb gb w5 hS
 (try simp only [List.drop_succ_cons]); (try simp only [List.drop_zero]); (try simp only [Nat.reduceSub]); (try simp only [List.take_succ_cons]); (try simp only [List.take_zero])
 obtain ⟨kd, sl, nn⟩ := gq
 have hR5 := hS.a (kd, sl, nn) rfl
 dsimp only at hR5 ⊢
 obtain ⟨A2, a2, c2, rfl⟩ := RepG.sl hR5
 obtain ⟨hfb, hff⟩ := hS.b fb rfl
 obtain ⟨hgb, hgg⟩ := hS.c gb rfl
 have hd1 := fun p a c h => hS.d1 (kd, .slice A2 a2 c2, nn) fb p a c rfl rfl h
 have hd2 := fun p a c h => hS.d2 (kd, .slice A2 a2 c2, nn) gb p a c rfl rfl h
 have hd3 := hS.d3 fb gb rfl rfl
 have hb5 := hS.t
 clear hS
 obtain ⟨ff0, ff1, ff2⟩ := hff.get1
 obtain ⟨gg0, gg1, gg2, gg3, gg4, gg5, gg6⟩ := hgg.get3
 go_upto_region 5 with fail
 clear ff0 ff1 ff2 gg0 gg1 gg2 gg3 gg4 gg5 gg6
 have hff6 : Vs ((((w5.setCell ⟨fb, 0, none⟩ (.int .u8 f)).setCell ⟨gb, 0, none⟩ (.int .u8 kd)).setCell ⟨gb, 1, none⟩ (.slice A2 a2 c2)).setCell ⟨gb, 2, none⟩ (.int .i64 nn)) fb [.int .u8 f] := (((hff.put 0 (by simp) (.int .u8 f)).far (by dsimp only; omega) _).far (by dsimp only; omega) _).far (by dsimp only; omega) _
 have hgg6 : Vs ((((w5.setCell ⟨fb, 0, none⟩ (.int .u8 f)).setCell ⟨gb, 0, none⟩ (.int .u8 kd)).setCell ⟨gb, 1, none⟩ (.slice A2 a2 c2)).setCell ⟨gb, 2, none⟩ (.int .i64 nn)) gb [.int .u8 kd, .slice A2 a2 c2, .int .i64 nn] := Vs.set3 (hgg.far (p := ⟨fb, 0, none⟩) (by dsimp only; omega) _) _ _ _
 have hR6 : RepG ((((w5.setCell ⟨fb, 0, none⟩ (.int .u8 f)).setCell ⟨gb, 0, none⟩ (.int .u8 kd)).setCell ⟨gb, 1, none⟩ (.slice A2 a2 c2)).setCell ⟨gb, 2, none⟩ (.int .i64 nn)) ((((w5.setCell ⟨fb, 0, none⟩ (.int .u8 f)).setCell ⟨gb, 0, none⟩ (.int .u8 kd)).setCell ⟨gb, 1, none⟩ (.slice A2 a2 c2)).setCell ⟨gb, 2, none⟩ (.int .i64 nn)).heap.size kd (.slice A2 a2 c2) nn gd := hR5.same fun p a c h => by
  have h1 := hd1 p a c h
  have h2 := hd2 p a c h
  have h3 := hR5.ltB p a c h
  exact ⟨(Below.heap_setCell _ _ _ _ h2).trans ((Below.heap_setCell _ _ _ _ h2).trans ((Below.heap_setCell _ _ _ _ h2).trans (Below.heap_setCell _ _ _ _ h1))), by simpa [World.setCell] using h3⟩
 have hb26 : Below w2.heap.size w2 ((((w5.setCell ⟨fb, 0, none⟩ (.int .u8 f)).setCell ⟨gb, 0, none⟩ (.int .u8 kd)).setCell ⟨gb, 1, none⟩ (.slice A2 a2 c2)).setCell ⟨gb, 2, none⟩ (.int .i64 nn)) := bl_st3 (bl_set hb5 hfb _) hgb _ _ _
 generalize ((((w5.setCell ⟨fb, 0, none⟩ (.int .u8 f)).setCell ⟨gb, 0, none⟩ (.int .u8 kd)).setCell ⟨gb, 1, none⟩ (.slice A2 a2 c2)).setCell ⟨gb, 2, none⟩ (.int .i64 nn)) = w6 at *
 clear hff hgg hR5 hd1 hd2 hb5
 have hyy := HYY.out.call hb26
 have hxx := HXX.out.call hb26
 have hb00 := bl_call HB2.out (Nat.le_refl _) hb26
 have hw26 : w.heap.size ≤ w2.heap.size := HB2.out.size
 have hxl : w.heap.size + 1 < w2.heap.size := HXX.out.lt
 clear HYY HXX HB2 hb26 HGAD HCHK
 have hne : ((tot : Int) != (tot : Int)) = false := by simp
 obtain ⟨⟨yy0, yy1, yy2, yy3, yy4, yy5⟩, ⟨yy6, yy7, yy8, yy9, yy10, yy11⟩, yy12⟩ := hyy.get6
 go_upto_region 8 with (first
  | (go_at_call 21; refine (HPRF.out _).mono ?_; rintro e w7 ⟨rfl, hb7⟩; replace hb00 := bl_call hb00 (Nat.le_refl _) hb7; replace hyy := hyy.call hb7; replace hxx := hxx.call hb7; replace hff6 := hff6.call hb7; replace hgg6 := hgg6.call hb7; replace hR6 := hR6.later hb7; clear yy0 yy1 yy2 yy3 yy4 yy5 yy6 yy7 yy8 yy9 yy10 yy11 yy12; clear hb7; obtain ⟨⟨yy0, yy1, yy2, yy3, yy4, yy5⟩, ⟨yy6, yy7, yy8, yy9, yy10, yy11⟩, yy12⟩ := hyy.get6)
  | (go_at_call 30; refine (HDOM.out _).mono ?_; rintro e w8 ⟨rfl, hb8⟩; replace hb00 := bl_call hb00 (Nat.le_refl _) hb8; replace hyy := hyy.call hb8; replace hxx := hxx.call hb8; replace hff6 := hff6.call hb8; replace hgg6 := hgg6.call hb8; replace hR6 := hR6.later hb8; clear yy0 yy1 yy2 yy3 yy4 yy5 yy6 yy7 yy8 yy9 yy10 yy11 yy12; clear hb8; obtain ⟨⟨yy0, yy1, yy2, yy3, yy4, yy5⟩, ⟨yy6, yy7, yy8, yy9, yy10, yy11⟩, yy12⟩ := hyy.get6)
  | (go_at_call 29; refine (HLG.out _ hb00).mono ?_; rintro e w9 ⟨rfl, rfl⟩))
 clear yy0 yy1 yy2 yy3 yy4 yy5 yy6 yy7 yy8 yy9 yy10 yy11 yy12
 clear HPRF HDOM HLG
 by_cases hx1 : Fm.kpow x (2 ^ L) = 1
 ·have HW : Hid (∀ wz, Calls Tryz.prog 63 #[.int .u8 f, .int .i64 L, .agg #[.int .u64 (lo x), .int .u64 (hi x)]] wz (RetE9 12 wz)) := fun wz => (HWT.out wz).mono fun e w' h => by
   rcases h with ⟨_, h⟩ | ⟨h, _⟩
   ·exact h
   ·exact absurd hx1 h
  have HX1 := Lib.hid hx1
  clear hx1 HWT
  obtain ⟨ff60, ff61, ff62⟩ := hff6.get1
  obtain ⟨xx0, xx1, xx2, xx3, xx4⟩ := V2.mk hxx.c0 hxx.c1 hxx.f0 hxx.f1 hxx.lt
  go_wp2_with (go_at_call 63; refine (HW.out _).mono ?_; rintro e w10 ⟨rfl, hb10⟩)
  replace hb00 := bl_call hb00 (Nat.le_refl _) hb10
  replace hyy := hyy.call hb10
  replace hxx := hxx.call hb10
  replace hff6 := hff6.call hb10
  replace hgg6 := hgg6.call hb10
  replace hR6 := hR6.later hb10
  go_ret2
  exact (HRQ.out _ _).2 (.inl ⟨HX1.out, rfl, hb00⟩)
 have HW : Hid (∀ wz, Calls Tryz.prog 63 #[.int .u8 f, .int .i64 L, .agg #[.int .u64 (lo x), .int .u64 (hi x)]] wz (RetOwn0 (wts L x) wz)) := fun wz => (HWT.out wz).mono fun e w' h => by
  rcases h with ⟨h, _⟩ | ⟨_, h⟩
  ·exact absurd h hx1
  ·exact h
 have HQ2 : Hid (2 ≤ N) := by show 2 ≤ N; have h1 := H82.out; have h2 := HNN.out; omega
 have HX1 := Lib.hid hx1
 have HDO := Lib.hid (HDOT.out hx1)
 clear hx1 HWT HDOT
 have hfl := hff6.lt
 obtain ⟨ff60, ff61, ff62⟩ := hff6.get1
 obtain ⟨xx0, xx1, xx2, xx3, xx4⟩ := V2.mk hxx.c0 hxx.c1 hxx.f0 hxx.f1 hxx.lt
 go_upto_region 9 with (go_at_call 63; refine (HW.out _).mono ?_; rintro e w10 ⟨vw, rfl, how, hb10⟩; rw [HWTL.out] at how; obtain ⟨gw, cw, rfl⟩ := own_sliceP how H8.out.1)
 clear ff60 ff61 ff62 xx0 xx1 xx2 xx3 xx4
 have hgwl := how.lt gw rfl
 have hsw := own_sl HWTL.out how
 replace hb00 := bl_call hb00 (Nat.le_refl _) hb10
 replace hyy := hyy.call hb10
 replace hxx := hxx.call hb10
 replace hff6 := hff6.call hb10
 replace hgg6 := hgg6.call hb10
 replace hR6 := hR6.later hb10
 clear hb10 how HW
 have HSW := Lib.hid hsw
 clear hsw
 have hbw : Below w10.heap.size w10 w10 := Below.refl _ _
 obtain ⟨ff60, ff61, ff62⟩ := hff6.get1
 go_upto_region 12 with (go_at_call 31; refine (HPT.out _).mono ?_; rintro e w11 ⟨vt, rfl, hot, hb11⟩; rw [HPTL.out] at hot; obtain ⟨gt, ct, rfl⟩ := own_sliceP hot H8.out.1)
 clear ff60 ff61 ff62
 have hgtl := hot.lt gt rfl
 have hst := own_sl HPTL.out hot
 replace hb00 := bl_call hb00 (Nat.le_refl _) hb11
 replace hyy := hyy.call hb11
 replace hxx := hxx.call hb11
 replace hff6 := hff6.call hb11
 replace hgg6 := hgg6.call hb11
 replace hR6 := hR6.later hb11
 replace hbw := bl_call hbw (Nat.le_refl _) hb11
 clear hb11 hot HPT
 have hsz12 : (w11.alloc (.cells #[.slice (some ⟨gt, 0, none⟩) N ct] 24)).heap.size = w11.heap.size + 1 := World.size_alloc _ _
 have htt := Vs.new w11 [.slice (some ⟨gt, 0, none⟩) N ct] #[.slice (some ⟨gt, 0, none⟩) N ct] 24 rfl
 have hbA : Below w11.heap.size w11 (w11.alloc (.cells #[.slice (some ⟨gt, 0, none⟩) N ct] 24)) := (Below.refl _ _).alloc (Nat.le_refl _) _
 replace hb00 := bl_call hb00 (Nat.le_refl _) hbA
 replace hyy := hyy.call hbA
 replace hxx := hxx.call hbA
 replace hff6 := hff6.call hbA
 replace hgg6 := hgg6.call hbA
 replace hR6 := hR6.later hbA
 replace hbw := bl_call hbw (Nat.le_refl _) hbA
 replace hst := hst.later hbA
 obtain ⟨tb, htb⟩ : ∃ z, w11.heap.size = z := ⟨_, rfl⟩
 generalize w11.alloc (.cells #[.slice (some ⟨gt, 0, none⟩) N ct] 24) = w12 at *
 clear hbA
 rw [htb] at htt hsz12 hgtl
 simp only [htb]
 clear htb
 go_upto_region 14 with fail
 have HYY := Lib.hid hyy
 have HGG := Lib.hid hgg6
 have HR := Lib.hid hR6
 have HB := Lib.hid hb00
 apply region_Z2 (n := 7) (m := 8) (f := 7) (fun x0 x1 => (QbK w12 (2 ^ L) ((p.take ar).map fun x => [x])) (some x0) (some x1) ) ((QbT w12) none none) ((QbK w12 (2 ^ L) ((p.take ar).map fun x => [x])) none none) ((fun _ h => h.t)) (QbK.clo) ((QbK.start w12 _ _))
 case hm => kernel_rfl
 case hB => kernel_rfl
 case hf => rfl
 case' h =>
  refine WpX.vD 0 (some 70) ?_ rfl rfl (by kernel_rfl) (fun _ _ _ h => h) rfl (fun wz hwz => ?_) ?_
  rotate_left
  ·(have hz := (HYY.out.call hwz).get6; obtain ⟨⟨z0, z1, z2, z3, z4, z5⟩, ⟨y0, y1, y2, y3, y4, y5⟩, y6⟩ := hz; go_simp; try (with_reducible rfl))
  simp only [Zp, Zq, Zr, Zs]
  refine WpX.vD 1 (some 71) ?_ rfl rfl (by kernel_rfl) (fun _ _ _ h => h) rfl (fun wz hwz => ?_) ?_
  rotate_left
  ·go_simp; try (with_reducible rfl)
  simp only [Zp, Zq, Zr, Zs]
  refine WpX.vD 2 (some 72) ?_ rfl rfl (by kernel_rfl) (fun _ _ _ h => h) rfl (fun wz hwz => ?_) ?_
  rotate_left
  ·(obtain ⟨z0, z1, z2, z3, z4, z5, z6⟩ := (HGG.out.call hwz).get3; go_simp; try (with_reducible rfl))
  simp only [Zp, Zq, Zr, Zs]
  refine WpX.takeD 3 (some 73) rfl rfl (by kernel_rfl) (fun _ _ _ h => h) (.call rfl (fun wz hwz => HARI.out wz _ kd (.slice A2 a2 c2) nn (HR.out.later hwz)) (fun wz hwz => ?_)) ?_
  ·go_simp; try (with_reducible rfl)
  simp only [Zp, Zq, Zr, Zs]
  refine WpX.vD 4 (some 74) ?_ rfl rfl (by kernel_rfl) (fun _ _ _ h => h) rfl (fun wz hwz => ?_) ?_
  rotate_left
  ·go_simp; try (with_reducible rfl)
  simp only [Zp, Zq, Zr, Zs]
  refine WpX.twoD 5 6 (some 75) (some 22) rfl rfl rfl rfl (by kernel_rfl) (fun q : Nat × Nat × Nat × List Value => Value.pointer (some ⟨q.1, 0, none⟩)) (fun wq => (QbT w12) (some wq) none) (fun wq => (QbK w12 (2 ^ L) ((p.take ar).map fun x => [x])) (some wq) none) (Turns.call rfl (fun _ _ h => h) (fun _ => (fun _ h => h.t)) (fun _ => QbK.clo) (fun wz hS => (HBEG.out wz (.slice (some ⟨bp, op, none⟩) ar c) (HTK.out.later (bl_call HB.out (Nat.le_refl _) hS.t))).mono fun e w' ⟨wb, lb, cp, us, he, hW, hD, hb⟩ => ⟨(wb, lb, cp, us), he, hS.mk1 (wb, lb, cp, us) hW hD hb⟩) (fun wz hS => by go_simp; try (with_reducible rfl))) (fun b : Nat => Value.pointer (some ⟨b, 0, none⟩)) (fun pb => (QbT w12) none (some pb)) (fun pb => (QbK w12 (2 ^ L) ((p.take ar).map fun x => [x])) none (some pb)) (Turns.val rfl (fun _ _ h => h) (fun _ => (fun _ h => h.t)) (fun _ => QbK.clo) (fun wz hS => ⟨wz.heap.size, wz.alloc (.cells #[.pointer none] 94), by go_simp; try (with_reducible rfl), hS.mk2⟩)) (fun wq => ?rz14_10a) (fun pb => ?rz14_10b)
  case' rz14_10a =>
   simp only [Zp, Zq, Zr, Zs]
   refine WpX.oneD 6 (some 22) rfl rfl (by kernel_rfl) (fun b : Nat => Value.pointer (some ⟨b, 0, none⟩)) (fun pb => (QbT w12) (some wq) (some pb)) (fun pb => (QbK w12 (2 ^ L) ((p.take ar).map fun x => [x])) (some wq) (some pb)) (Turns.val rfl (fun _ _ h => h) (fun _ => (fun _ h => h.t)) (fun _ => QbK.clo) (fun wz hS => ⟨wz.heap.size, wz.alloc (.cells #[.pointer none] 94), by go_simp; try (with_reducible rfl), hS.mk2⟩)) (fun pb => ?_)
   simp only [Zp, Zq, Zr, Zs]
   refine WpX.done (by kernel_rfl) (fun w13 hS => ⟨wq, pb, rfl, ?_⟩)
   ·exact hS
  case' rz14_10b =>
   simp only [Zp, Zq, Zr, Zs]
   refine WpX.oneD 5 (some 75) rfl rfl (by kernel_rfl) (fun q : Nat × Nat × Nat × List Value => Value.pointer (some ⟨q.1, 0, none⟩)) (fun wq => (QbT w12) (some wq) (some pb)) (fun wq => (QbK w12 (2 ^ L) ((p.take ar).map fun x => [x])) (some wq) (some pb)) (Turns.call rfl (fun _ _ h => h) (fun _ => (fun _ h => h.t)) (fun _ => QbK.clo) (fun wz hS => (HBEG.out wz (.slice (some ⟨bp, op, none⟩) ar c) (HTK.out.later (bl_call HB.out (Nat.le_refl _) hS.t))).mono fun e w' ⟨wb, lb, cp, us, he, hW, hD, hb⟩ => ⟨(wb, lb, cp, us), he, hS.mk1 (wb, lb, cp, us) hW hD hb⟩) (fun wz hS => by go_simp; try (with_reducible rfl))) (fun wq => ?_)
   simp only [Zp, Zq, Zr, Zs]
   refine WpX.done (by kernel_rfl) (fun w13 hS => ⟨wq, pb, rfl, ?_⟩)
   ·exact hS
 intro wq pb w13 hS
 (try simp only [List.drop_succ_cons]); (try simp only [List.drop_zero]); (try simp only [Nat.reduceSub]); (try simp only [List.take_succ_cons]); (try simp only [List.take_zero])
 obtain ⟨wb, lb, cp, us⟩ := wq
 obtain ⟨hW13, hD13⟩ := hS.a (wb, lb, cp, us) rfl
 obtain ⟨hpb, hpp⟩ := hS.b pb rfl
 have hdp := hS.d (wb, lb, cp, us) pb rfl rfl
 have hb13 := hS.t
 dsimp only at hW13 hD13 hdp ⊢
 clear hS HBEG
 obtain ⟨pp0, pp1, pp2⟩ := hpp.get1
 go_upto_region 15 with fail
 clear pp0 pp1 pp2
 have hpl := hpp.lt
 have hpp14 : Vs (w13.setCell ⟨pb, 0, none⟩ (.pointer (some ⟨wb, 0, none⟩))) pb [.pointer (some ⟨wb, 0, none⟩)] := hpp.put 0 (by simp) _
 have hW14 := hW13.same (w' := w13.setCell ⟨pb, 0, none⟩ (.pointer (some ⟨wb, 0, none⟩))) fun q hq => Below.heap_setCell _ _ _ _ (fun e => hdp (by have e2 : q = pb := e; rw [← e2]; exact hq))
 have hb14 : Below w12.heap.size w12 (w13.setCell ⟨pb, 0, none⟩ (.pointer (some ⟨wb, 0, none⟩))) := bl_set hb13 hpb _
 have hs14 : (w13.setCell ⟨pb, 0, none⟩ (.pointer (some ⟨wb, 0, none⟩))).heap.size = w13.heap.size := by simp [World.setCell]
 generalize w13.setCell ⟨pb, 0, none⟩ (.pointer (some ⟨wb, 0, none⟩)) = w14 at *
 rw [← hs14] at hpl
 clear hpp hW13 hb13 hs14
 have hyy := HYY.out.call hb14
 have hgg := HGG.out.call hb14
 have hR := HR.out.later hb14
 have hb00 := bl_call HB.out (Nat.le_refl _) hb14
 replace hbw := bl_call hbw (Nat.le_refl _) hb14
 replace hst := hst.later hb14
 replace hxx := hxx.call hb14
 replace hff6 := hff6.call hb14
 replace htt := htt.call hb14
 have hl14 := hW14.lt
 have hs24 := hb14.size
 clear HYY HGG HR HB hb14 hgg6 hR6
 obtain ⟨gg0, gg1, gg2, gg3, gg4, gg5, gg6⟩ := hgg.get3
 go_upto_region 16 with (go_at_call 28; refine (HARI.out _ _ _ _ _ hR).mono ?_; rintro e w15 ⟨rfl, hb15⟩)
 clear gg0 gg1 gg2 gg3 gg4 gg5 gg6
 have hs15 := hb15.size
 replace hb00 := bl_call hb00 (Nat.le_refl _) hb15
 replace hyy := hyy.call hb15
 replace hxx := hxx.call hb15
 replace hff6 := hff6.call hb15
 replace hbw := bl_call hbw (Nat.le_refl _) hb15
 replace hst := hst.later hb15
 replace htt := htt.call hb15
 replace hpp14 := hpp14.call hb15
 replace hW14 := hW14.call hb15
 clear hb15 hR hgg HARI
 have hqq := Vs.new w15 [.slice (some ⟨bp, op + ar * 2, none⟩) (tot - ar) (c - ar)] #[.slice (some ⟨bp, op + ar * 2, none⟩) (tot - ar) (c - ar)] 24 rfl
 have hsz16 : (w15.alloc (.cells #[.slice (some ⟨bp, op + ar * 2, none⟩) (tot - ar) (c - ar)] 24)).heap.size = w15.heap.size + 1 := World.size_alloc _ _
 have hbA : Below w15.heap.size w15 (w15.alloc (.cells #[.slice (some ⟨bp, op + ar * 2, none⟩) (tot - ar) (c - ar)] 24)) := (Below.refl _ _).alloc (Nat.le_refl _) _
 replace hb00 := bl_call hb00 (Nat.le_refl _) hbA
 replace hyy := hyy.call hbA
 replace hxx := hxx.call hbA
 replace hff6 := hff6.call hbA
 replace hbw := bl_call hbw (Nat.le_refl _) hbA
 replace hst := hst.later hbA
 replace htt := htt.call hbA
 replace hpp14 := hpp14.call hbA
 replace hW14 := hW14.call hbA
 obtain ⟨qb, hqb⟩ : ∃ z, w15.heap.size = z := ⟨_, rfl⟩
 generalize w15.alloc (.cells #[.slice (some ⟨bp, op + ar * 2, none⟩) (tot - ar) (c - ar)] 24) = w16 at *
 clear hbA
 rw [hqb] at hqq hsz16 hs15
 simp only [hqb]
 clear hqb
 have HSZ16 := Lib.hid hsz16
 clear hsz16
 go_upto_region 17 with fail
 have hsz16 := HSZ16.out
 have hcc := Vs.new w16 [.int .i64 0] #[.int .i64 0] 3 rfl
 have hsz17 : (w16.alloc (.cells #[.int .i64 0] 3)).heap.size = w16.heap.size + 1 := World.size_alloc _ _
 have hbA : Below w16.heap.size w16 (w16.alloc (.cells #[.int .i64 0] 3)) := (Below.refl _ _).alloc (Nat.le_refl _) _
 replace hb00 := bl_call hb00 (Nat.le_refl _) hbA
 replace hyy := hyy.call hbA
 replace hxx := hxx.call hbA
 replace hff6 := hff6.call hbA
 replace hbw := bl_call hbw (Nat.le_refl _) hbA
 replace hst := hst.later hbA
 replace htt := htt.call hbA
 replace hpp14 := hpp14.call hbA
 replace hW14 := hW14.call hbA
 replace hqq := hqq.call hbA
 obtain ⟨cb, hcb⟩ : ∃ z, w16.heap.size = z := ⟨_, rfl⟩
 generalize w16.alloc (.cells #[.int .i64 0] 3) = w17 at *
 clear hbA
 rw [hcb] at hcc hsz17 hsz16
 simp only [hcb]
 clear hcb
 have hb22 := hxx.lt
 have hbp := HPB.out
 obtain ⟨hEx, hDx, hcW, hcE⟩ := qry_blocks (WrD wb lb us) w.heap.size w2.heap.size w8.heap.size w10.heap.size w12.heap.size w14.heap.size fb gw gt tb pb qb cb bp hxl hfb hfl hgwl.1 hgwl.2 hgtl.1 hgtl.2 hsz12 hpb hpl hs15 hsz16 hbp hD13 hl14 hdp
 obtain ⟨ep, ef, eq, et, ebp, egt⟩ := QE.all pb fb qb tb bp gt
 generalize QE pb fb qb tb bp gt = E at *
 have hElt : ∀ q, E q → q < w17.heap.size := fun q hq => by have := (hEx q hq).2.1; omega
 have hEW : ∀ q, E q → ¬ WrD wb lb us q := fun q hq => (hEx q hq).2.2.2.2
 have hCap : CapQ E w17 pb fb qb tb wb (.slice (some ⟨bp, op + ar * 2, none⟩) (tot - ar) (c - ar)) (.slice (some ⟨gt, 0, none⟩) N ct) (p.drop ar) (pows (rootK f L) (2 ^ L)) :=
  ⟨hpp14, hff6, hqq, htt, HDR.out.later hb00, hst, ep, ef, eq, et,
   fun a b c h => by injection h with h; injection h with h; subst h; exact ebp, fun a b c h => by injection h with h; injection h with h; subst h; exact egt, hElt⟩
 obtain ⟨D, hDd⟩ : ∃ D : Nat → Prop, (fun q => WrD wb lb us q ∨ (q = cb ∨ E q)) = D := ⟨_, rfl⟩
 have hst17 : St (InvQ wb (2 ^ L) cb E w17 (linesA (p.take ar) args ar) 0) D w17 := by
  rw [← hDd]
  refine InvQ.st ⟨lb, cp, us, ?_, fun q => Iff.rfl, fun q hq hw => ?_, fun q _ => rfl, hcc⟩ hElt
  ·rw [HLZ.out]
   exact hW14
  ·rcases hq with hq | hq
   ·exact hcW (hq ▸ hw)
   ·exact hEW q hq hw
 replace hDx : ∀ q, D q → (q = bp ∨ w.heap.size ≤ q) ∧ q ≠ gw ∧ q ≠ w.heap.size + 1 ∧ (q < w.heap.size → E q) := by
  rw [← hDd]
  exact hDx
 have hx1 : SlX D w17 vl v := (HV.out.set fun q hq => (hDx q hq).1).call hb00
 have hx2 : SlX D w17 vj j := (HJ.out.set fun q hq => (hDx q hq).1).call hb00
 have hxw : SlX D w17 (.slice (some ⟨gw, 0, none⟩) N cw) (wts L x) := SlX.ofK (HSW.out.later hbw) (fun h => (hDx gw h).2.1 rfl)
 have HR17 := Lib.hid (HRUN.out w17 E w17 pb cb fb qb tb wb _ _ D hCap hcE hx1 hx2 hst17)
 have HCAP := Lib.hid hCap
 have HXW := Lib.hid hxw
 have HDX := Lib.hid hDx
 have HB17 := Lib.hid hb00
 have HXX := Lib.hid hxx
 have hmf : ∀ (fn : Fn) (first cap : Array Value) (w : World), (Instr.makeFunc fn first cap).run Tryz.prog w = .ok (.func fn first cap) w := fun _ _ _ _ => rfl
 clear hx1 hx2 hxw hCap hst17 hcE hcW hDx hEx hDd hEW hElt ep ef eq et ebp egt HRUN HV HJ HSW HTK HDR HLZ hb00 hbw hst htt hpp14 hW14 hqq hcc hff6 hxx hD13 hl14 hdp
 clear hsz12 hsz16 hsz17 hs15 hpl hpb hgtl hgwl hfl hfb hb22 hs24 hbp hxl
 obtain ⟨⟨yy0, yy1, yy2, yy3, yy4, yy5⟩, ⟨yy6, yy7, yy8, yy9, yy10, yy11⟩, yy12⟩ := hyy.get6
 go_upto_region 18 with (go_at_call 32; refine HR17.out.mono ?_; rintro e w18 ⟨rfl, hE18, D18, hst18, hD18⟩)
 clear yy0 yy1 yy2 yy3 yy4 yy5 yy6 yy7 yy8 yy9 yy10 yy11 yy12
 obtain ⟨lb8, cp8, us8, hW8, hDD8, hEW8, hAg8, hcc8⟩ := hst18.here
 obtain ⟨hpp, hff, hqq, htt, hspP, hspT⟩ := HCAP.out.at hAg8
 have hxx := HXX.out.exc (S := D) (fun h => (HDX.out _ h).2.2.1 rfl) hE18
 have hxw := HXW.out.exc hE18
 have hb00 : Below w.heap.size w w18 := HB17.out.trans ⟨hE18.os, hE18.tape, hE18.output, hE18.size, fun k hk => by
  by_cases hD : D k
  ·exact hAg8 k ((HDX.out k hD).2.2.2 hk)
  ·exact hE18.block k (Nat.lt_of_lt_of_le hk HB17.out.size) hD⟩
 have hsw := hxw.toK
 clear hDD8 hEW8 hAg8 hst18 hE18 hD18 hcc8 hyy htt hspT hxw HCAP HXW HDX HB17 HXX HR17
 have hvv := V2.new w18 (.int .u64 (lo out)) (.int .u64 (hi out)) 36
 have hbA : Below w18.heap.size w18 (w18.alloc (.cells #[.int .u64 (lo out), .int .u64 (hi out)] 36)) := (Below.refl _ _).alloc (Nat.le_refl _) _
 replace hb00 := bl_call hb00 (Nat.le_refl _) hbA
 replace hpp := hpp.call hbA
 replace hff := hff.call hbA
 replace hqq := hqq.call hbA
 replace hxx := hxx.call hbA
 replace hsw := hsw.later hbA
 replace hspP := hspP.later hbA
 replace hW8 := hW8.call hbA
 generalize w18.alloc (.cells #[.int .u64 (lo out), .int .u64 (hi out)] 36) = w19 at *
 clear hbA
 obtain ⟨vv0, vv1, vv2, vv3, vv4⟩ := V2.mk hvv.c0 hvv.c1 hvv.f0 hvv.f1 hvv.lt
 go_upto_region 21 with fail
 clear vv0 vv1 vv2 vv3 vv4
 have l1 := hpp.lt
 have l2 := hff.lt
 have l3 := hqq.lt
 have l4 := hxx.lt
 have l5 := hb00.size
 have hE0 : BlkE (w19.alloc (.cells #[.int .u64 (lo out), .int .u64 (hi out)] 36)) w19.heap.size [eK out] := heap_alloc_new w19 _
 have hbA : Below w19.heap.size w19 (w19.alloc (.cells #[.int .u64 (lo out), .int .u64 (hi out)] 36)) := (Below.refl _ _).alloc (Nat.le_refl _) _
 replace hb00 := bl_call hb00 (Nat.le_refl _) hbA
 replace hpp := hpp.call hbA
 replace hff := hff.call hbA
 replace hqq := hqq.call hbA
 replace hxx := hxx.call hbA
 replace hsw := hsw.later hbA
 replace hspP := hspP.later hbA
 replace hW8 := hW8.call hbA
 obtain ⟨g0, hg0⟩ : ∃ z, w19.heap.size = z := ⟨_, rfl⟩
 generalize w19.alloc (.cells #[.int .u64 (lo out), .int .u64 (hi out)] 36) = w20 at *
 clear hbA hvv
 rw [hg0] at hE0 l1 l2 l3 l4 l5
 simp only [hg0]
 clear hg0
 have hown : w20.ownsRow g0 36 2 (.slice (some ⟨g0, 0, none⟩) 1 1) 1 (cellsE (esK [out])) := BlkE.own (l := [eK out]) hE0 (by simp) (Nat.le_refl _)
 have HFU := Lib.hid (HFUL.out w20 wb lb8 cp8 us8 hW8)
 obtain ⟨PS, hPS⟩ : ∃ PS, ((linesA (p.take ar) args ar nc).map fun l => l ++ List.replicate (2 ^ L - (nc + 1)) 0) = PS := ⟨_, rfl⟩
 have HPSL : Hid (PS.length = ar) := by show PS.length = ar; rw [← hPS, List.length_map, linesA_length]
 have HPSP : Hid (PS.map (fun l => ev x (coefsK L l)) = (polysA L (p.take ar) args nc ar).map (ev x)) := by
  show _ = _
  rw [← linesA_polys L (p.take ar) args ar nc, hPS, List.map_map]
  rfl
 have HPSN : Hid (∀ (i : Nat) (l : KL f), PS[i]? = some l → l.length = 2 ^ L) := fun i l h => by
  rw [← hPS, List.getElem?_map] at h
  cases hq : (linesA (p.take ar) args ar nc)[i]? with
  | none => rw [hq] at h; cases h
  | some l' =>
   rw [hq] at h
   injection h with h
   have := linesA_at _ _ _ _ _ _ hq
   rw [← h, List.length_append, List.length_replicate]
   have := HNC.out
   omega
 rw [hPS] at HFU
 clear hPS hW8 HFUL
 obtain ⟨DV, hDV⟩ : ∃ DV : KL f → Fin (Pm f), (fun l => ev x (coefsK L l)) = DV := ⟨_, rfl⟩
 rw [hDV] at HPSP
 have HDT : Hid (∀ (wz : World) (vw u : Value) (l : KL f) (z : Fin (Pm f)), DV l = z → l.length = 2 ^ L → SlK wz wz.heap.size vw (wts L x) → SlK wz wz.heap.size u l → Calls Tryz.prog 69 #[.int .u8 f, vw, u] wz (RetK0 z wz)) := by
  rw [← hDV]
  exact HDO.out
 clear hDV HDO
 obtain ⟨p0, p1, p2⟩ := hpp.get1
 go_wp2_with (go_at_call 68; refine HFU.out.mono ?_; rintro e w21 ⟨vf, usf, rfl, hFI⟩; have hFr := hFI.rows; rw [HPSL.out] at hFr; obtain ⟨gf, cf, rfl⟩ := own_sliceP hFr HAL.out.1)
 clear p0 p1 p2 hFr hpp
 have hbl := hFI.bl
 have h021 := hbl.size
 replace hb00 := bl_call hb00 (Nat.le_refl _) hbl
 replace hff := hff.call hbl
 replace hqq := hqq.call hbl
 replace hxx := hxx.call hbl
 replace hsw := hsw.later hbl
 replace hspP := hspP.later hbl
 replace hE0 := hE0.call hbl
 replace hown := own_call hown hbl
 obtain ⟨hrow, hglf, hus⟩ : RowS w21 gf 0 usf ∧ gf < w21.heap.size ∧ usf.length = ar := by
  have h := hFI.rows
  rw [HPSL.out] at h
  obtain ⟨g', c', hv', h1, _, h2, h3, _⟩ := own_rowS HAL.out.1 h
  injection hv' with e1
  injection e1 with e1
  injection e1 with e1
  subst e1
  exact ⟨h1, h2, h3⟩
 have hpk := hFI.ps.toK
 have har := HAL.out.1
 have hlin : ∀ (i : Nat) (u : Value) (l : KL f), usf[i]? = some u → PS[i]? = some l → SlX (fun q => q = g0) w21 u l := fun i u l hu hl =>
  (hpk.at' i u l hu hl).outOf hE0 (by rw [HPSN.out i l hl]; exact H82.out)
 have hgf0 : ¬ gf = g0 := by
  obtain ⟨u, hu⟩ : ∃ u, usf[0]? = some u := ⟨_, List.getElem?_eq_getElem (by omega)⟩
  obtain ⟨l, hl⟩ : ∃ l, PS[0]? = some l := ⟨_, List.getElem?_eq_getElem (by rw [HPSL.out]; omega)⟩
  obtain ⟨A', c', hv', _⟩ := hlin 0 u l hu hl
  rw [hv'] at hu
  exact rowS_ne hE0 hrow hu
 have hswX := hsw.outOf hE0 (by rw [HWTL.out]; have := HQ2.out; omega)
 have hspX := hspP.outOf hE0 (by rw [HPN.out]; have := HTOT.out; omega)
 have HROW := Lib.hid hrow
 have HGLF := Lib.hid hglf
 have HUSL := Lib.hid hus
 have HLIN := Lib.hid hlin
 have HB21 := Lib.hid hb00
 have HFF := Lib.hid hff
 have HQQ := Lib.hid hqq
 have HXX := Lib.hid hxx
 have HSW := Lib.hid hswX
 have HSP := Lib.hid hspX
 have HGF0 := Lib.hid hgf0
 have HG0 : Hid (g0 < w21.heap.size ∧ w.heap.size ≤ g0 ∧ fb < g0 ∧ qb < g0 ∧ w.heap.size + 1 < g0) := ⟨hE0.lt, l5, l2, l3, l4⟩
 have hEx0 : Exc (fun q => q = g0) w21.heap.size w21 w21 := exc_of (Below.refl _ _)
 have har32 : ar ≤ 32 := HAL.out.2
 clear hbl hrow hglf hus hpk hb00 hff hqq hxx hsw hspP hswX hspX hlin hFI hE0 hgf0 h021 l1 l2 l3 l4 l5 HFU
 go_loopw [26, 97] (fun v26 iv wr => ∃ (i : Nat) (u : Value), i ≤ ar ∧ iv = .int .i64 i ∧ u = v26 ∧ wr.ownsRow g0 36 2 u (i + 1) (cellsE (esK (out :: (PS.take i).map DV))) ∧ (∀ q, u.ownBlock = some q → q = g0 ∨ w21.heap.size ≤ q) ∧ Exc (fun q => q = g0) w21.heap.size w21 wr) (fun _ iv _ => ar - (intOf iv).toNat)
 case atStart => exact ⟨0, _, Nat.zero_le _, rfl, rfl, hown, (fun q hq => .inl (Option.some.inj hq).symm), hEx0⟩
 case round =>
  clear hown hEx0
  obtain ⟨i, u, hin, rfl, rfl, hown, hub, hEx⟩ := hrel
  have hwrs := hEx.size
  have hg0r : g0 ≤ wr.heap.size := by have := HG0.out.1; omega
  by_cases hlt : i < ar
  ·obtain ⟨gu, cu, rfl⟩ := own_sliceP hown (Nat.succ_pos i)
   obtain ⟨ui, hu⟩ : ∃ u, usf[i]? = some u := ⟨_, List.getElem?_eq_getElem (by rw [HUSL.out]; exact hlt)⟩
   obtain ⟨l, hl⟩ : ∃ l, PS[i]? = some l := ⟨_, List.getElem?_eq_getElem (by rw [HPSL.out]; exact hlt)⟩
   have huc : wr.cell? ⟨gf, 0 + i, none⟩ = some ui := cell_exc (HROW.out i ui hu) HGF0.out hEx
   rw [Nat.zero_add] at huc
   have hgl : gf < wr.heap.size := Nat.lt_of_lt_of_le HGLF.out hwrs
   have hsu := ((HLIN.out i ui l hu hl).exc hEx).toK
   obtain ⟨Au, cu2, hvu, _, _, _⟩ := id hsu
   have hff := HFF.out.exc (S := fun q => q = g0) (by have := HG0.out; show ¬ fb = g0; omega) hEx
   obtain ⟨z, hz⟩ : ∃ z, DV l = z := ⟨_, rfl⟩
   have HDC := Lib.hid (HDT.out wr _ ui l z hz (HPSN.out i l hl) (HSW.out.exc hEx).toK hsu)
   have HLI := Lib.hid hl
   have HZ := Lib.hid hz
   have g1 : (0 : Int) ≤ (i : Int) := by omega
   have g2 : (i : Int) < (ar : Int) := by omega
   rw [hvu] at huc HDC
   clear hsu hvu hl hu hz
   obtain ⟨ff0, ff1, ff2⟩ := hff.get1
   go_upto_region 25 with (go_at_call 69; refine HDC.out.mono ?_; rintro e w22 ⟨rfl, hb22⟩)
   clear ff0 ff1 ff2
   clear huc hff hgl
   have hvz := V2.new w22 (.int .u64 (lo z)) (.int .u64 (hi z)) 36
   have hb23 : Below wr.heap.size wr (w22.alloc (.cells #[.int .u64 (lo z), .int .u64 (hi z)] 36)) := bl_call hb22 (Nat.le_refl _) ((Below.refl _ _).alloc (Nat.le_refl _) _)
   generalize w22.alloc (.cells #[.int .u64 (lo z), .int .u64 (hi z)] 36) = w23 at *
   clear hb22
   obtain ⟨vz0, vz1, vz2, vz3, vz4⟩ := V2.mk hvz.c0 hvz.c1 hvz.f0 hvz.f1 hvz.lt
   go_upto_region 27 with fail
   have hb24 : Below wr.heap.size wr (w23.alloc (.cells #[.int .u64 (lo z), .int .u64 (hi z)] 36)) := bl_call hb23 (Nat.le_refl _) ((Below.refl _ _).alloc (Nat.le_refl _) _)
   have hown24 := own_call hown hb24
   have hsl24 := SlK.sing w23 z
   have hs24 := hb24.size
   have hle : g0 ≤ (w23.alloc (.cells #[.int .u64 (lo z), .int .u64 (hi z)] 36)).heap.size := by omega
   have hlen : (out :: (PS.take i).map DV).length = i + 1 := by
    rw [List.length_cons, List.length_map, List.length_take, HPSL.out]
    omega
   have HO := Lib.hid hown24
   have HS := Lib.hid hsl24
   have HL := Lib.hid hlen
   have HB := Lib.hid hb24
   have HU := Lib.hid hub
   have HE := Lib.hid hEx
   have hk1 : i + 1 + 1 ≤ 1099511627776 := by omega
   have hk2 : 0 < i + 1 + 1 := by omega
   clear hown hown24 hsl24 hlen hb24 hb23 hub hEx
   go_upto_region 28 with (at_builtin; (refine wpList_append_Ex rfl (.tmp 111) (.tmp 113) rfl g0 (i + 1) 1 _ _ (out :: (PS.take i).map DV) [z] rfl rfl HL.out rfl HO.out HS.out hle hk1 hk2 ?_; intro q w25 ho25 hE25 hq25))
   have HO25 := Lib.hid ho25
   have HE25 := Lib.hid hE25
   have HQ25 := Lib.hid hq25
   clear ho25 hE25 hq25 hvz
   go_wp2_with fail
   go_roundw
   case rel =>
    have ht : out :: (PS.take (i + 1)).map DV = (out :: (PS.take i).map DV) ++ [z] := by
     rw [List.take_add_one, HLI.out, List.map_append, ← HZ.out]
     rfl
    refine ⟨i + 1, _, by omega, by go_num, rfl, ?_, ?_, ?_⟩
    ·rw [ht]
     exact HO25.out
    ·intro q9 hq9
     have e9 : q.1 = q9 := Option.some.inj hq9
     rcases HQ25.out with h | h
     ·exact e9 ▸ HU.out q.1 h
     ·right
      omega
    ·exact (HE.out.call HB.out).more HE25.out fun q hq => HU.out q hq
   case measure => simp [intOf]; omega
  ·have hie : i = ar := by omega
   simp only [hie]
   rw [hie, List.take_of_length_le (Nat.le_of_eq HPSL.out), HPSP.out] at hown
   clear hin hlt hie
   obtain ⟨gu, cu, rfl⟩ := own_sliceP hown (Nat.succ_pos ar)
   have hff := HFF.out.exc (S := fun q => q = g0) (by have := HG0.out; show ¬ fb = g0; omega) hEx
   have hqq := HQQ.out.exc (S := fun q => q = g0) (by have := HG0.out; show ¬ qb = g0; omega) hEx
   have hxx := HXX.out.exc (S := fun q => q = g0) (by have := HG0.out; show ¬ w.heap.size + 1 = g0; omega) hEx
   have hb00 : Below w.heap.size w wr := HB21.out.trans ((hEx.mono HB21.out.size).below fun k hk h => by have h2 : k = g0 := h; have := HG0.out; omega)
   obtain ⟨zp, hzp⟩ : ∃ z, ev x (p.drop ar) = z := ⟨_, rfl⟩
   have HAC := Lib.hid (HATP.out wr _ zp hzp (HSP.out.exc hEx).toK)
   have HO := Lib.hid hown
   have HB := Lib.hid hb00
   have hlen : (out :: (polysA L (p.take ar) args nc ar).map (ev x)).length = ar + 1 := by rw [List.length_cons, List.length_map, polysA_length]
   have HL := Lib.hid hlen
   have HFIN : Hid (∀ e w', RetSq0 ((out :: (polysA L (p.take ar) args nc ar).map (ev x)) ++ [zp]) w e w' → RetQy y L v j part p x w e w') := fun e w' h => (HRQ.out e w').2 (.inr ⟨HX1.out, by rw [hzp]; exact h⟩)
   have hg0w : w.heap.size ≤ g0 := HG0.out.2.1
   have hguw : w.heap.size ≤ gu := by
    have h1 := HG0.out
    rcases hub gu rfl with h | h <;> omega
   have hk1 : ar + 1 + 1 ≤ 1099511627776 := by omega
   have hk2 : 0 < ar + 1 + 1 := by omega
   clear hown hb00 hlen hub hEx hzp
   obtain ⟨ff0, ff1, ff2⟩ := hff.get1
   obtain ⟨qq0, qq1, qq2⟩ := hqq.get1
   obtain ⟨xx0, xx1, xx2, xx3, xx4⟩ := V2.mk hxx.c0 hxx.c1 hxx.f0 hxx.f1 hxx.lt
   go_wp2_with (first
    | (go_at_call 67; refine HAC.out.mono ?_; rintro e w26 ⟨rfl, hb26⟩; have hs26 := hb26.size; have hle : g0 ≤ (w26.alloc (.cells #[.int .u64 (lo zp), .int .u64 (hi zp)] 36)).heap.size := (by rw [World.size_alloc]; omega); have HB26 := Lib.hid hb26; clear hb26)
    | (at_builtin; (refine wpList_append_Ex rfl (.tmp 116) (.tmp 121) rfl g0 (ar + 1) 1 _ _ _ [zp] rfl rfl HL.out rfl (own_call HO.out (bl_call HB26.out (Nat.le_refl _) ((Below.refl _ _).alloc (Nat.le_refl _) _))) (SlK.sing w26 zp) hle hk1 hk2 ?_; intro q w27 ho27 hE27 hq27)))
   go_ret2
   have hlen2 : ((out :: (polysA L (p.take ar) args nc ar).map (ev x)) ++ [zp]).length = ar + 1 + 1 := by rw [List.length_append, HL.out]; rfl
   have hbZ : Below w.heap.size w (w26.alloc (.cells #[.int .u64 (lo zp), .int .u64 (hi zp)] 36)) := bl_call (bl_call HB.out (Nat.le_refl _) HB26.out) (Nat.le_refl _) ((Below.refl _ _).alloc (Nat.le_refl _) _)
   refine HFIN.out _ _ ⟨(some ⟨q.1, 0, none⟩, q.2), by rw [hlen2]; rfl, by rw [hlen2]; exact own_sl hlen2 ho27, ?_⟩
   exact hbZ.trans ((hE27.mono hbZ.size).below fun k hk h => by have h2 : gu = k := Option.some.inj h; omega)
end

end Go.Proofs.YtfbfbijkkbflkaaGreatDoor

namespace Go.Proofs.YtfbfbijkkbflkaaGreatDoor
open Go.RowKit Fm
set_option linter.unusedVariables false
set_option maxRecDepth 100000

structure RawT where
 c : Raw
 p : Int
 s : ByteArray
def RawT.val (t : RawT) : Value := .agg #[.int .u8 t.c.k, .int .u8 t.c.f, .int .i64 t.c.b, .int .i64 t.c.l, .int .i64 t.c.m, .int .i64 t.c.c, .int .i64 t.p, .string t.s]

section
variable {f : Nat} (hf : IsF f)
include hf

end

end Go.Proofs.YtfbfbijkkbflkaaGreatDoor

namespace Go.Proofs.YtfbfbijkkbflkaaGreatDoor
open Go.RowKit Fm
set_option linter.unusedVariables false
set_option maxRecDepth 100000

def cells8 (xs : List Int) : List Value := xs.map (.int .u8)
end Go.Proofs.YtfbfbijkkbflkaaGreatDoor

namespace Go.Proofs.YtfbfbijkkbflkaaGreatDoor
open Go.RowKit Fm Go.ChangeShapes Go.WideShapes Go.Deep
set_option linter.unusedVariables false
set_option maxRecDepth 100000

def RowB (w : World) (b o : Nat) (xs : List Int) : Prop := ∀ (i : Nat) (e : Int), xs[i]? = some e → w.cell? ⟨b, o + i, none⟩ = some (.int .u8 e)
theorem RowB.cells {w : World} {b o : Nat} {xs : List Int} (h : RowB w b o xs) (j : Nat) (u : Value) (hu : (cells8 xs)[j]? = some u) : w.cell? ((⟨b, o, none⟩ : Addr).add j) = some u := by
 have ha : (⟨b, o, none⟩ : Addr).add j = ⟨b, o + j, none⟩ := by
  unfold Addr.add
  split <;> simp_all
 rw [ha]
 unfold cells8 at hu
 rw [List.getElem?_map] at hu
 cases hx : xs[j]? with
 | none => rw [hx] at hu; cases hu
 | some e =>
  rw [hx] at hu
  injection hu with hu
  subst hu
  exact h j e hx

section
variable {f : Nat} (hf : IsF f)
include hf

end

end Go.Proofs.YtfbfbijkkbflkaaGreatDoor

namespace Go.Proofs.YtfbfbijkkbflkaaGreatDoor
open Go.RowKit Fm
set_option linter.unusedVariables false
set_option maxRecDepth 100000

theorem small_log {y : CK} (h : y.small) : ∃ L, L ≤ 8 ∧ nextP (y.calls + 1) = 2 ^ L ∧ y.calls + 1 ≤ 2 ^ L := by
 have h1 := CK.calls_le h.ok
 have h2 := h.nin
 obtain ⟨L, hL, hN, hc⟩ := nextP_pow (y.calls + 1) (by omega)
 refine ⟨L, ?_, hN, hc⟩
 have h16 : nextP (y.calls + 1) ≤ 16 := by
  unfold nextP
  repeat' split
  all_goals omega
 rcases Nat.lt_or_ge 8 L with h | h
 ·have h3 : 2 ^ 9 ≤ 2 ^ L := Nat.pow_le_pow_right (by omega) h
  have h4 : (2 : Nat) ^ 9 = 512 := by decide
  omega
 ·exact h
theorem any_pow {f L : Nat} (hL : L ≤ 10) (x : Fin (Pm f)) : (pows (rootK f L) (2 ^ L)).any (fun p => decide (p = x)) = decide (Fm.kpow x (2 ^ L) = 1) := by
 have hr := rt_root f L (by omega)
 rw [Bool.eq_iff_iff, List.any_eq_true, decide_eq_true_iff]
 constructor
 ·rintro ⟨p, hp, he⟩
  obtain rfl : p = x := by simpa using he
  unfold pows ofF at hp
  obtain ⟨k, _, rfl⟩ := List.mem_map.1 hp
  rw [← Fm.kpow_mul, Nat.mul_comm, Fm.kpow_mul, hr.one, one_kpow]
 ·intro h
  obtain ⟨k, hk, rfl⟩ := Rt.only hr (by omega) h
  exact ⟨_, List.mem_of_getElem? (pows_get _ _ _ hk), by simp⟩

end Go.Proofs.YtfbfbijkkbflkaaGreatDoor
