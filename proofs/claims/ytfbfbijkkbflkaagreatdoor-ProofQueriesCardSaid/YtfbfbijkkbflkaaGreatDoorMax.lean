/-
 PfBW, PfAW, PfC, Pl2, Gp, Trunc, PTrim, NPad: what the statements of this layer share.
-/
import Derived.WalkSpells
import Derived.Test.YtfbfbijkkbflkaaGreatDoorMaw
namespace Go.Proofs.YtfbfbijkkbflkaaGreatDoor
open Go.RowKit Fm
set_option linter.unusedVariables false
set_option maxRecDepth 100000

def RetBeg {f : Nat} (N : Nat) (xs : KL f) (w : World) (e : Ending) (w' : World) : Prop :=
 ∃ (wb lb cp : Nat) (us : List Value), e = .returned (.pointer (some ⟨wb, 0, none⟩)) ∧ WrI wb lb cp N us (xs.map fun x => [x]) w' ∧ (∀ q, WrD wb lb us q → w.heap.size ≤ q) ∧ Below w.heap.size w w'

section
variable {f : Nat}
set_option maxHeartbeats 8000000 in
theorem proof_begin (y : CK) (hy : y.ok) (hcl : y.calls ≤ 511) (vs : Value) (xs : KL f) (w : World) (hs : SlK w w.heap.size vs xs) (hn1 : 1 ≤ xs.length) (hn2 : xs.length ≤ 1000) :
  Calls Tryz.prog 64 #[y.val f, vs] w (RetBeg (nextP (y.calls + 1)) xs w) := by
 have HD : Hid (∀ wz, Calls Tryz.prog 30 #[y.val f] wz (RetI (nextP (y.calls + 1)) wz)) := fun wz => circuit_Domain f y hy hcl wz
 have hN := nextP_le (y.calls + 1)
 obtain ⟨N, hNe⟩ : ∃ N, nextP (y.calls + 1) = N := ⟨_, rfl⟩
 rw [hNe] at HD hN ⊢
 obtain ⟨hN1, hN2⟩ := hN
 have HS := Lib.hid hs
 obtain ⟨A, c, rfl, _, _, _⟩ := hs
 obtain ⟨n, hn⟩ : ∃ n, xs.length = n := ⟨_, rfl⟩
 have HXN := Lib.hid hn
 rw [hn] at hn1 hn2 HS ⊢
 have HAT : Hid (∀ i, i < n → ∃ x, xs[i]? = some x) := fun i hi => ⟨_, List.getElem?_eq_getElem (by omega)⟩
 clear hNe hn hcl
 unfold CK.val at HD ⊢
 generalize ((y.k : Nat) : Int) = K at *
 generalize ((y.b : Nat) : Int) = B at *
 generalize ((y.l : Nat) : Int) = NN at *
 generalize ((y.m : Nat) : Int) = M at *
 generalize ((y.c : Nat) : Int) = C at *
 clear hy
 go_enter Tryz.func64, Tryz.ntmps64
 go_upto_region 1 with fail
 have hx := Vs.new w [.int .u8 K, .int .u8 f, .int .i64 B, .int .i64 NN, .int .i64 M, .int .i64 C] #[.int .u8 K, .int .u8 f, .int .i64 B, .int .i64 NN, .int .i64 M, .int .i64 C] 30 rfl
 have hb00 : Below w.heap.size w (w.alloc (.cells #[.int .u8 K, .int .u8 f, .int .i64 B, .int .i64 NN, .int .i64 M, .int .i64 C] 30)) := by repeat (first | exact bA | with_reducible assumption | apply bB)
 have hszn : w.heap.size + 1 ≤ (w.alloc (.cells #[.int .u8 K, .int .u8 f, .int .i64 B, .int .i64 NN, .int .i64 M, .int .i64 C] 30)).heap.size := by simp only [World.size_alloc]; omega
 generalize (w.alloc (.cells #[.int .u8 K, .int .u8 f, .int .i64 B, .int .i64 NN, .int .i64 M, .int .i64 C] 30)) = w1 at hx hb00 hszn ⊢
 obtain ⟨⟨x0, x1, x2, x3, x4, x5⟩, ⟨x6, x7, x8, x9, x10, x11⟩, x12⟩ := hx.get6
 go_wp2_with fail
 refine (HD.out _).mono ?_
 rintro e w2 ⟨rfl, hb2⟩
 clear x0 x1 x2 x3 x4 x5 x6 x7 x8 x9 x10 x11 x12
 replace hb00 := bl_call hb00 (Nat.le_refl _) hb2
 replace hx := hx.call hb2
 clear hb2 hx HD
 go_upto_region 2 with fail
 have hst := Vs.new w2 [.slice none 0 0, .int .i64 (N : Nat)] #[.slice none 0 0, .int .i64 (N : Nat)] 124 rfl
 have hbA : Below w2.heap.size w2 (w2.alloc (.cells #[.slice none 0 0, .int .i64 (N : Nat)] 124)) := (Below.refl _ _).alloc (Nat.le_refl _) _
 have hw2s := hb00.size
 replace hb00 := bl_call hb00 (Nat.le_refl _) hbA
 have hwsz : (w2.alloc (.cells #[.slice none 0 0, .int .i64 (N : Nat)] 124)).heap.size = w2.heap.size + 1 := World.size_alloc _ _
 obtain ⟨wb, hwb⟩ : ∃ z, w2.heap.size = z := ⟨_, rfl⟩
 rw [hwb] at hst hwsz hw2s
 simp only [hwb]
 generalize w2.alloc (.cells #[.slice none 0 0, .int .i64 (N : Nat)] 124) = w3 at hst hb00 hwsz ⊢
 clear hbA hwb
 have hBE : BeI wb N w3.heap.size (.slice none 0 0) (.slice none 0 0) 0 [] xs w3 := ⟨hst, World.ownsRow_nil _ _ _ _, rfl, fun j u h => (by cases h), fun j k u _ h => (by cases h), by omega⟩
 have h03 := hb00.size
 have hB3 := hb00
 have hsz3 : w3.heap.size ≤ w3.heap.size := Nat.le_refl _
 clear hst hb00
 go_wp2_with fail
 go_loopw [14] (fun iv wr => ∃ (i cp : Nat) (D : Option Addr) (us : List Value), i ≤ n ∧ iv = .int .i64 i ∧ BeI wb N w3.heap.size (.slice D i cp) (.slice D i cp) i us xs wr ∧ Below w.heap.size w wr ∧ w3.heap.size ≤ wr.heap.size) (fun iv _ => n - (intOf iv).toNat)
 case atStart => exact ⟨0, 0, none, [], Nat.zero_le _, rfl, hBE, hB3, hsz3⟩
 case round =>
  clear hBE hB3 hsz3
  obtain ⟨i, cp, D, us, hin, rfl, hBE, hB3, hsz3⟩ := hrel
  by_cases hlt : i < n
  ·obtain ⟨x, hx⟩ := HAT.out i hlt
   have HXI := Lib.hid hx
   obtain ⟨b1, o1, hAe, hbw1, hrow1⟩ := HS.out.rowOf (by rw [HXN.out]; omega)
   have hall : Below w.heap.size w wr := hB3
   obtain ⟨d0, d1⟩ := (hrow1.below hall hbw1).kat hx
   have hbl : b1 < wr.heap.size := Nat.lt_of_lt_of_le hbw1 hall.size
   have g1 : (0 : Int) ≤ (i : Int) := by omega
   have g2 : (i : Int) < (n : Int) := by omega
   have HUS : Hid (∀ (j : Nat) (u : Value) (g : Nat), us[j]? = some u → u = .slice (some ⟨g, 0, none⟩) 1 1 → g < wr.heap.size) := fun j u g hj hu => by
    obtain ⟨g', x', k1, _, k3, _⟩ := hBE.one j u hj
    rw [hu] at k1
    injection k1 with k1
    injection k1 with k1
    injection k1 with k1
    rw [k1]
    exact k3.lt
   subst hAe
   clear hx hrow1 hall
   go_upto_region 5 with fail
   have hXE := BlkE.new wr [eK x] #[.int .u64 (lo x), .int .u64 (hi x)] rfl
   have hbA : Below wr.heap.size wr (wr.alloc (.cells #[.int .u64 (lo x), .int .u64 (hi x)] 36)) := (Below.refl _ _).alloc (Nat.le_refl _) _
   replace hB3 := bl_call hB3 (Nat.le_refl _) hbA
   replace hBE := hBE.call hbA
   have hsz4 := hbA.size
   obtain ⟨xb, hxb⟩ : ∃ z, wr.heap.size = z := ⟨_, rfl⟩
   generalize wr.alloc (.cells #[.int .u64 (lo x), .int .u64 (hi x)] 36) = w4 at hXE hB3 hBE hsz4 ⊢
   rw [hxb] at hXE HUS hsz4
   simp only [hxb]
   clear hbA d0 d1 hbl
   obtain ⟨hv, hhv⟩ : ∃ v : Value, Value.slice D i cp = v := ⟨_, rfl⟩
   have HHV := Lib.hid hhv
   have hw34 : w3.heap.size ≤ w4.heap.size := by rw [hxb] at hsz3; omega
   have HAPP : Hid (∀ nb sb wz, BeS2 w w4 w3.heap.size wb N hv xb x i us xs nb sb wz → ∀ ty, ∃ q : Nat × Nat, ∃ w', (Builtin.append_ #[59, 59] ty #[hv, .slice (some ⟨sb, 0, none⟩) 1 1]).run Tryz.prog wz = .ok (.slice (some ⟨q.1, 0, none⟩) (i + 1) q.2) w' ∧ BeS3 w w4 w3.heap.size wb N hv xb x i us xs nb q w') := fun nb sb wz h ty => h.app HXI.out (by omega) hw34 h03 (fun j u g h1 h2 => Nat.lt_of_lt_of_le (HUS.out j u g h1 h2) hsz4) ty
   rw [hhv] at hBE
   clear hxb
   have hS00 : BeS0 w w4 w3.heap.size wb N hv xb x i us xs w4.drew := ⟨⟨hBE.st.drew, hXE.drew, hB3.drew, Nat.le_refl _⟩, BeI.call hBE ((Below.refl _ _).drew)⟩
   clear hXE hB3 hBE hhv
   refine region_X (BeT w w4 w3.heap.size wb N hv xb x) (BeS0 w w4 w3.heap.size wb N hv xb x i us xs) (fun _ h => h.1) (BeS0.clo _ _ _ _ _ _ _ _ _ _ _) hS00 (n := 11) (m := 12) (f := 11) (by kernel_rfl) (by kernel_rfl) rfl ?_
   refine WpX.vD 0 (some 18) ?_ rfl rfl (by kernel_rfl) (fun _ _ _ h => h) rfl (fun wz hwz => ?_) ?_
   rotate_left
   ·go_simp; try (with_reducible rfl)
   simp only [Zp, Zq, Zr, Zs]
   refine WpX.vD 1 (some 19) ?_ rfl rfl (by kernel_rfl) (fun _ _ _ h => h) rfl (fun wz hwz => ?_) ?_
   rotate_left
   ·go_simp; try (with_reducible rfl)
   simp only [Zp, Zq, Zr, Zs]
   refine WpX.vD 2 (some 20) ?_ rfl rfl (by kernel_rfl) (fun _ _ _ h => h) rfl (fun wz hwz => ?_) ?_
   rotate_left
   ·go_simp; try (with_reducible rfl)
   simp only [Zp, Zq, Zr, Zs]
   refine WpX.vD 3 (some 21) ?_ rfl rfl (by kernel_rfl) (fun _ _ _ h => h) rfl (fun wz hwz => ?_) ?_
   rotate_left
   ·go_simp; try (with_reducible rfl)
   simp only [Zp, Zq, Zr, Zs]
   refine WpX.vD 4 (some 22) ?_ rfl rfl (by kernel_rfl) (fun _ _ _ h => h) rfl (fun wz hwz => ?_) ?_
   rotate_left
   ·(have hz2 := hwz.st.to2; rw [← HHV.out] at hz2; obtain ⟨z0, z1, z2, z3, z4⟩ := V2.mk hz2.c0 hz2.c1 hz2.f0 hz2.f1 hz2.lt; go_simp; try (with_reducible rfl))
   simp only [Zp, Zq, Zr, Zs]
   refine WpX.vD 5 (some 23) ?_ rfl rfl (by kernel_rfl) (fun _ _ _ h => h) rfl (fun wz hwz => ?_) ?_
   rotate_left
   ·(obtain ⟨z0, z1⟩ := hwz.bx.row 0 _ rfl; rw [Nat.zero_mul] at z0 z1; have z2 := hwz.bx.lt; go_simp; try (with_reducible rfl))
   simp only [Zp, Zq, Zr, Zs]
   refine WpX.oneD 6 (some 24) rfl rfl (by kernel_rfl) (fun b : Nat => Value.slice (some ⟨b, 0, none⟩) 1 1) (fun _ => BeT w w4 w3.heap.size wb N hv xb x) (fun nb => BeS1 w w4 w3.heap.size wb N hv xb x i us xs nb) (Turns.val rfl (fun _ _ h => h) (fun _ _ h => h.1.1) (fun nb => BeS1.clo _ _ _ _ _ _ _ _ _ _ _ nb) (fun wz hS => ⟨wz.heap.size, wz.alloc (.cells #[.int .u64 (lo x), .int .u64 (hi x)] 36), by go_simp; try rfl, hS.mk1⟩)) (fun nb => ?_)
   simp only [Zp, Zq, Zr, Zs]
   refine WpX.oneD 7 (some 25) rfl rfl (by kernel_rfl) (fun b : Nat => Value.slice (some ⟨b, 0, none⟩) 1 1) (fun _ => BeT w w4 w3.heap.size wb N hv xb x) (fun sb => BeS2 w w4 w3.heap.size wb N hv xb x i us xs nb sb) (Turns.val rfl (fun _ _ h => h) (fun _ _ h => h.1.1.1) (fun sb => BeS2.clo _ _ _ _ _ _ _ _ _ _ _ nb sb) (fun wz hS => ⟨wz.heap.size, wz.alloc (.cells #[.slice (some ⟨nb, 0, none⟩) 1 1] 24), by go_simp; try (with_reducible rfl), hS.mk2⟩)) (fun sb => ?_)
   simp only [Zp, Zq, Zr, Zs]
   refine WpX.oneD 8 (some 26) rfl rfl (by kernel_rfl) (fun q : Nat × Nat => Value.slice (some ⟨q.1, 0, none⟩) (i + 1) q.2) (fun _ => BeT w w4 w3.heap.size wb N hv xb x) (fun q => BeS3 w w4 w3.heap.size wb N hv xb x i us xs nb q) (Turns.val rfl (fun _ _ h => h) (fun _ _ h => h.1) (fun q => BeS3.clo _ _ _ _ _ _ _ _ _ _ _ nb q) (fun wz hS => by obtain ⟨q, w', hr, hK⟩ := HAPP.out nb sb wz hS _; exact ⟨q, w', exec_append_S (.tmp 22) (.tmp 25) rfl (by rw [← HHV.out]; rfl) rfl hr, hK⟩)) (fun q => ?_)
   simp only [Zp, Zq, Zr, Zs]
   refine WpX.vD 9 (some 27) ?_ rfl rfl (by kernel_rfl) (fun _ _ _ h => h) rfl (fun wz hwz => ?_) ?_
   rotate_left
   ·go_simp; try (with_reducible rfl)
   simp only [Zp, Zq, Zr, Zs]
   refine WpX.vD 10 (some 28) ?_ rfl rfl (by kernel_rfl) (fun _ _ _ h => h) rfl (fun wz hwz => ?_) ?_
   rotate_left
   ·go_simp; try (with_reducible rfl)
   simp only [Zp, Zq, Zr, Zs]
   refine WpX.done (by kernel_rfl) (fun w5 hS => ?_)
   (try simp only [List.drop_succ_cons]); (try simp only [List.drop_zero]); (try simp only [Nat.reduceSub]); (try simp only [List.take_succ_cons]); (try simp only [List.take_zero])
   obtain ⟨hT, hBI⟩ := hS
   have hz2 := hT.st.to2
   rw [← HHV.out] at hz2
   obtain ⟨z0, z1, z2, z3, z4⟩ := V2.mk hz2.c0 hz2.c1 hz2.f0 hz2.f1 hz2.lt
   have HBI := Lib.hid hBI
   have HT := Lib.hid hT
   clear hT hBI hz2
   go_wp2_with fail
   go_roundw
   case rel => exact ⟨i + 1, q.2, some ⟨q.1, 0, none⟩, us ++ [.slice (some ⟨nb, 0, none⟩) 1 1], by omega, by go_num, HBI.out.put, bl_set HT.out.bl (by dsimp only; omega) _, by have := HT.out.sz; simp only [World.size_setCell]; omega⟩
   case measure => simp [intOf]; omega
  ·obtain rfl : i = n := by omega
   have HW : Hid (∃ g, D = some ⟨g, 0, none⟩) := by
    obtain ⟨m, hm⟩ : ∃ m, i = m + 1 := ⟨i - 1, by omega⟩
    have h := hBE.rows
    rw [hm] at h
    obtain ⟨g, c9, h2⟩ := own_slice h
    injection h2 with h2
    exact ⟨g, h2⟩
   obtain ⟨g, hg⟩ := HW.out
   subst hg
   have HBE := Lib.hid hBE
   clear hBE
   go_wp2_with fail
   go_ret
   have h1 := HBE.out
   rw [← HXN.out] at h1
   obtain ⟨h2, h3⟩ := h1.wires
   exact ⟨wb, g, cp, us, rfl, h2, fun q hq => Nat.le_trans hw2s (h3 q hq), hB3⟩
end

end Go.Proofs.YtfbfbijkkbflkaaGreatDoor

namespace Go.Proofs.YtfbfbijkkbflkaaGreatDoor
open Go.RowKit Fm
set_option linter.unusedVariables false
set_option maxRecDepth 100000

section
variable {f : Nat}
set_option maxHeartbeats 8000000 in
theorem proof_ask (wb lb cp sz k : Nat) (vs : List Value) (ls : List (KL f)) (xs : KL f) (va : Value) (w : World) (hW : WrI wb lb cp sz vs ls w) (hl : ∀ (i : Nat) (l : KL f), ls[i]? = some l → l.length = k + 1) (hk : k + 1 < sz) (hsz : sz ≤ 4096)
  (hx : SlX (WrD wb lb vs) w va xs) (hxl : xs.length = ls.length) (hn1 : 1 ≤ ls.length) (hn2 : ls.length ≤ 1000) :
  Calls Tryz.prog 66 #[.pointer (some ⟨wb, 0, none⟩), va] w (RetAsk wb lb cp sz vs ls xs w) := by
 obtain ⟨n, hn⟩ : ∃ n, ls.length = n := ⟨_, rfl⟩
 obtain ⟨D, hD⟩ : ∃ D : Nat → Prop, WrD wb lb vs = D := ⟨_, rfl⟩
 have HXX := Lib.hid hx
 have HWW := Lib.hid hW
 have HLL := Lib.hid hl
 have HDD := Lib.hid hD
 have hcl : vs.length = n := hW.len.trans hn
 have hcc : n ≤ cp := hn ▸ hW.cap
 obtain ⟨v0, hv0⟩ : ∃ v, vs[0]? = some v := ⟨_, List.getElem?_eq_getElem (by omega)⟩
 obtain ⟨l0, hl0⟩ : ∃ l, ls[0]? = some l := ⟨_, List.getElem?_eq_getElem (by omega)⟩
 have ho0 := hW.own 0 v0 l0 hv0 hl0
 rw [hl 0 l0 hl0] at ho0
 obtain ⟨g0, c0, rfl⟩ := own_slice ho0
 have hc00 := hW.rows.cell 0 _ hv0
 have hst := hW.st
 rw [hn] at hst
 obtain ⟨A, c, rfl, hxc, _, _⟩ := hx
 rw [hxl, hn] at HXX hxc ⊢
 have HXN := Lib.hid (hxl.trans hn)
 have HLN := Lib.hid hn
 have HVN := Lib.hid hcl
 obtain ⟨m, hm⟩ : ∃ m, k + 1 = m := ⟨_, rfl⟩
 rw [hm] at hc00 hk
 have HKM : Hid (k + 1 = m ∧ m ≤ 4096) := ⟨hm, by omega⟩
 have q1 : 0 < n := by omega
 have q2 : ¬ (sz ≤ m) := by omega
 have q3 : (0 : Int) < (n : Int) := by omega
 have q4 : ¬ ((sz : Int) ≤ (m : Int)) := by omega
 have hlbl := hW.rows.lt
 obtain ⟨z0, z1, z2, z3, hwbl⟩ := V2.mk hst.to2.c0 hst.to2.c1 hst.to2.f0 hst.to2.f1 hst.to2.lt
 clear hv0 hl0 ho0 hl hxl hn hD hcl hW hst hm hk
 go_enter Tryz.func66, Tryz.ntmps66
 go_upto_region 1 with fail
 refine region_B (n := 29) (m := 30) (f := 29) (by kernel_rfl) (by kernel_rfl) rfl ?_
 refine WpH.vD 0 (some 7) ?_ rfl rfl (by kernel_rfl) (fun _ _ _ h => h) rfl (fun wz hwz => ?_) ?_
 rotate_left
 ·go_simp; try (with_reducible rfl)
 simp only [Zp, Zq, Zr, Zs]
 refine WpH.vD 1 (some 8) ?_ rfl rfl (by kernel_rfl) (fun _ _ _ h => h) rfl (fun wz hwz => ?_) ?_
 rotate_left
 ·go_simp; try (with_reducible rfl)
 simp only [Zp, Zq, Zr, Zs]
 refine WpH.vD 2 (some 9) ?_ rfl rfl (by kernel_rfl) (fun _ _ _ h => h) rfl (fun wz hwz => ?_) ?_
 rotate_left
 ·go_simp; try (with_reducible rfl)
 simp only [Zp, Zq, Zr, Zs]
 refine WpH.vD 3 (some 10) ?_ rfl rfl (by kernel_rfl) (fun _ _ _ h => h) rfl (fun wz hwz => ?_) ?_
 rotate_left
 ·go_simp; try (with_reducible rfl)
 simp only [Zp, Zq, Zr, Zs]
 refine WpH.vD 4 (some 11) ?_ rfl rfl (by kernel_rfl) (fun _ _ _ h => h) rfl (fun wz hwz => ?_) ?_
 rotate_left
 ·go_simp; try (with_reducible rfl)
 simp only [Zp, Zq, Zr, Zs]
 refine WpH.vD 5 (some 12) ?_ rfl rfl (by kernel_rfl) (fun _ _ _ h => h) rfl (fun wz hwz => ?_) ?_
 rotate_left
 ·(obtain ⟨hcz, hfz⟩ := bcell hwz; go_simp; try (with_reducible rfl))
 simp only [Zp, Zq, Zr, Zs]
 refine WpH.vD 6 (some 13) ?_ rfl rfl (by kernel_rfl) (fun _ _ _ h => h) rfl (fun wz hwz => ?_) ?_
 rotate_left
 ·go_simp; try (with_reducible rfl)
 simp only [Zp, Zq, Zr, Zs]
 refine WpH.vD 7 (some 14) ?_ rfl rfl (by kernel_rfl) (fun _ _ _ h => h) rfl (fun wz hwz => ?_) ?_
 rotate_left
 ·go_simp; try (with_reducible rfl)
 simp only [Zp, Zq, Zr, Zs]
 refine WpH.vD 8 (some 15) ?_ rfl rfl (by kernel_rfl) (fun _ _ _ h => h) rfl (fun wz hwz => ?_) ?_
 rotate_left
 ·go_simp; try (with_reducible rfl)
 simp only [Zp, Zq, Zr, Zs]
 refine WpH.vD 9 (some 16) ?_ rfl rfl (by kernel_rfl) (fun _ _ _ h => h) rfl (fun wz hwz => ?_) ?_
 rotate_left
 ·go_simp; try (with_reducible rfl)
 simp only [Zp, Zq, Zr, Zs]
 refine WpH.vD 10 (some 17) ?_ rfl rfl (by kernel_rfl) (fun _ _ _ h => h) rfl (fun wz hwz => ?_) ?_
 rotate_left
 ·go_simp; try (with_reducible rfl)
 simp only [Zp, Zq, Zr, Zs]
 refine WpH.vD 11 (some 18) ?_ rfl rfl (by kernel_rfl) (fun _ _ _ h => h) rfl (fun wz hwz => ?_) ?_
 rotate_left
 ·go_simp; try (with_reducible rfl)
 simp only [Zp, Zq, Zr, Zs]
 refine WpH.vD 12 (some 19) ?_ rfl rfl (by kernel_rfl) (fun _ _ _ h => h) rfl (fun wz hwz => ?_) ?_
 rotate_left
 ·(obtain ⟨hcz, hfz⟩ := bcell hwz; go_simp; try (with_reducible rfl))
 simp only [Zp, Zq, Zr, Zs]
 refine WpH.vD 13 (some 20) ?_ rfl rfl (by kernel_rfl) (fun _ _ _ h => h) rfl (fun wz hwz => ?_) ?_
 rotate_left
 ·go_simp; try (with_reducible rfl)
 simp only [Zp, Zq, Zr, Zs]
 refine WpH.vD 14 (some 21) ?_ rfl rfl (by kernel_rfl) (fun _ _ _ h => h) rfl (fun wz hwz => ?_) ?_
 rotate_left
 ·go_simp; try (with_reducible rfl)
 simp only [Zp, Zq, Zr, Zs]
 refine WpH.vD 15 (some 22) ?_ rfl rfl (by kernel_rfl) (fun _ _ _ h => h) rfl (fun wz hwz => ?_) ?_
 rotate_left
 ·go_simp; try (with_reducible rfl)
 simp only [Zp, Zq, Zr, Zs]
 refine WpH.vD 16 (some 23) ?_ rfl rfl (by kernel_rfl) (fun _ _ _ h => h) rfl (fun wz hwz => ?_) ?_
 rotate_left
 ·go_simp; try (with_reducible rfl)
 simp only [Zp, Zq, Zr, Zs]
 refine WpH.vD 17 (some 24) ?_ rfl rfl (by kernel_rfl) (fun _ _ _ h => h) rfl (fun wz hwz => ?_) ?_
 rotate_left
 ·go_simp; try (with_reducible rfl)
 simp only [Zp, Zq, Zr, Zs]
 refine WpH.vD 18 (some 25) ?_ rfl rfl (by kernel_rfl) (fun _ _ _ h => h) rfl (fun wz hwz => ?_) ?_
 rotate_left
 ·go_simp; try (with_reducible rfl)
 simp only [Zp, Zq, Zr, Zs]
 refine WpH.vD 19 (some 26) ?_ rfl rfl (by kernel_rfl) (fun _ _ _ h => h) rfl (fun wz hwz => ?_) ?_
 rotate_left
 ·(obtain ⟨hcz, hfz⟩ := bcell hwz; go_simp; try (with_reducible rfl))
 simp only [Zp, Zq, Zr, Zs]
 refine WpH.vD 20 (some 27) ?_ rfl rfl (by kernel_rfl) (fun _ _ _ h => h) rfl (fun wz hwz => ?_) ?_
 rotate_left
 ·go_simp; try (with_reducible rfl)
 simp only [Zp, Zq, Zr, Zs]
 refine WpH.vD 21 (some 28) ?_ rfl rfl (by kernel_rfl) (fun _ _ _ h => h) rfl (fun wz hwz => ?_) ?_
 rotate_left
 ·(obtain ⟨hcz, hfz⟩ := bcell hwz; go_simp; try (with_reducible rfl))
 simp only [Zp, Zq, Zr, Zs]
 refine WpH.vD 22 (some 29) ?_ rfl rfl (by kernel_rfl) (fun _ _ _ h => h) rfl (fun wz hwz => ?_) ?_
 rotate_left
 ·go_simp; try (with_reducible rfl)
 simp only [Zp, Zq, Zr, Zs]
 refine WpH.vD 23 (some 30) ?_ rfl rfl (by kernel_rfl) (fun _ _ _ h => h) rfl (fun wz hwz => ?_) ?_
 rotate_left
 ·go_simp; try (with_reducible rfl)
 simp only [Zp, Zq, Zr, Zs]
 refine WpH.vD 24 (some 31) ?_ rfl rfl (by kernel_rfl) (fun _ _ _ h => h) rfl (fun wz hwz => ?_) ?_
 rotate_left
 ·go_simp; try (with_reducible rfl)
 simp only [Zp, Zq, Zr, Zs]
 refine WpH.vD 25 (some 32) ?_ rfl rfl (by kernel_rfl) (fun _ _ _ h => h) rfl (fun wz hwz => ?_) ?_
 rotate_left
 ·go_simp; try (with_reducible rfl)
 simp only [Zp, Zq, Zr, Zs]
 refine WpH.vD 26 (some 33) ?_ rfl rfl (by kernel_rfl) (fun _ _ _ h => h) rfl (fun wz hwz => ?_) ?_
 rotate_left
 ·(obtain ⟨hcz, hfz⟩ := bcell hwz; go_simp; try (with_reducible rfl))
 simp only [Zp, Zq, Zr, Zs]
 refine WpH.vD 27 (some 34) ?_ rfl rfl (by kernel_rfl) (fun _ _ _ h => h) rfl (fun wz hwz => ?_) ?_
 rotate_left
 ·go_simp; try (with_reducible rfl)
 simp only [Zp, Zq, Zr, Zs]
 refine WpH.vD 28 (some 35) ?_ rfl rfl (by kernel_rfl) (fun _ _ _ h => h) rfl (fun wz hwz => ?_) ?_
 rotate_left
 ·go_simp; try (with_reducible rfl)
 simp only [Zp, Zq, Zr, Zs]
 refine WpH.doneB (by kernel_rfl) (fun w1 hw1 => ?_)
 (try simp only [List.drop_succ_cons]); (try simp only [List.drop_zero]); (try simp only [Nat.reduceSub]); (try simp only [List.take_succ_cons]); (try simp only [List.take_zero])
 clear z0 z1 z2 z3 hc00
 have hex1 : Exc D w.heap.size w w1 := exc_of hw1
 have hWI1 : WrI wb lb cp sz vs (apn ls xs 0) w1 := by rw [apn_zero]; exact HWW.out.call hw1
 have hDq1 : ∀ q, WrD wb lb vs q → D q ∨ w.heap.size ≤ q := fun q hq => .inl (by rw [← HDD.out]; exact hq)
 have hlbD : Hid (D lb) := by rw [← HDD.out]; exact .inr (.inl rfl)
 clear hw1 hlbl hwbl q1 q2 q3 q4
 go_wp2_with fail
 go_loopw [39] (fun iv wr => ∃ (i : Nat) (us : List Value), i ≤ n ∧ iv = .int .i64 i ∧ WrI wb lb cp sz us (apn ls xs i) wr ∧ (∀ q, WrD wb lb us q → D q ∨ w.heap.size ≤ q) ∧ Exc D w.heap.size w wr) (fun iv _ => n - (intOf iv).toNat)
 case atStart => exact ⟨0, vs, Nat.zero_le _, rfl, hWI1, hDq1, hex1⟩
 case round =>
  clear hex1 hWI1 hDq1
  obtain ⟨i, us, hin, rfl, hWI, hDq, hexc⟩ := hrel
  by_cases hlt : i < n
  ·have hal : (apn ls xs i).length = n := (apn_length ls xs i).trans HLN.out
   have hul : us.length = n := hWI.len.trans hal
   obtain ⟨x, hx⟩ : ∃ x, xs[i]? = some x := ⟨_, List.getElem?_eq_getElem (by rw [HXN.out]; exact hlt)⟩
   obtain ⟨u, hu⟩ : ∃ u, us[i]? = some u := ⟨_, List.getElem?_eq_getElem (by omega)⟩
   obtain ⟨l, hl⟩ : ∃ l, (apn ls xs i)[i]? = some l := ⟨_, List.getElem?_eq_getElem (by omega)⟩
   have hll : l.length + 1 ≤ 100000 := by
    have h := hl
    rw [apn_at] at h
    cases hq : ls[i]? with
    | none => rw [hq] at h; cases h
    | some l' =>
     rw [hq] at h
     simp only [Option.map_some, Nat.lt_irrefl, if_false, Option.some.injEq] at h
     subst h
     have := HLL.out i l' hq
     have := HKM.out.1
     have := HKM.out.2
     omega
   have HXI := Lib.hid hx
   have HUI := Lib.hid hu
   have HLI := Lib.hid hl
   have HLL1 := Lib.hid hll
   have HUL := Lib.hid hul
   have HAL := Lib.hid hal
   obtain ⟨b1, o1, hAe, hbl, d0, d1⟩ := (HXX.out.exc (by rw [HDD.out]; exact hexc)).at hx
   have g1 : (0 : Int) ≤ (i : Int) := by omega
   have g2 : (i : Int) < (n : Int) := by omega
   subst hAe
   clear hx hu hl hll hul hal
   go_upto_region 6 with fail
   have hXE := BlkE.new wr [eK x] #[.int .u64 (lo x), .int .u64 (hi x)] rfl
   have hbA : Below wr.heap.size wr (wr.alloc (.cells #[.int .u64 (lo x), .int .u64 (hi x)] 36)) := (Below.refl _ _).alloc (Nat.le_refl _) _
   have hnx : ¬ WrD wb lb us wr.heap.size := fun h => by have := hWI.lt _ h; omega
   replace hWI := hWI.call hbA
   replace hexc := hexc.later hbA
   obtain ⟨xb, hxb⟩ : ∃ z, wr.heap.size = z := ⟨_, rfl⟩
   generalize wr.alloc (.cells #[.int .u64 (lo x), .int .u64 (hi x)] 36) = w4 at hXE hWI hexc ⊢
   rw [hxb] at hXE hnx
   simp only [hxb]
   clear hbA d0 d1 hbl hxb
   have hS00 : AkS0 D w wb lb cp sz n us (apn ls xs i) xb x w4.drew := by
    have hb := (Below.refl w4.heap.size w4).drew
    refine ⟨⟨?_, (hWI.rows).drew, hXE.drew, hexc.later hb⟩, hWI.call hb, hnx⟩
    have h := hWI.st.drew
    rw [HAL.out] at h
    exact h
   have HAPP : Hid (∀ nb wz, AkS1 D w wb lb cp sz n us (apn ls xs i) xb x nb wz → ∀ ty, ∃ q : Nat × Nat, ∃ w', (Builtin.append_ #[24, 24] ty #[u, .slice (some ⟨nb, 0, none⟩) 1 1]).run Tryz.prog wz = .ok (.slice (some ⟨q.1, 0, none⟩) (l.length + 1) q.2) w' ∧ AkS2 D w wb lb cp sz n us (apn ls xs i) xb x i l (.slice (some ⟨q.1, 0, none⟩) (l.length + 1) q.2) w') := fun nb wz h ty => by
    obtain ⟨v', w', hr, hK⟩ := h.app HUI.out HLI.out HLL1.out hDq ty
    have ho := hK.2.1.new
    rw [List.length_append] at ho
    obtain ⟨g2, c2, rfl⟩ := own_slice ho
    exact ⟨(g2, c2), w', hr, hK⟩
   obtain ⟨m1, hm1⟩ : ∃ m1, l.length + 1 = m1 := ⟨_, rfl⟩
   rw [hm1] at HAPP
   clear hm1
   have HDQ := Lib.hid hDq
   clear hXE hWI hexc hnx hDq
   refine region_X (AkT D w wb lb cp sz n us xb x) (AkS0 D w wb lb cp sz n us (apn ls xs i) xb x) (fun _ h => h.1) (AkS0.clo _ _ _ _ _ _ _ _ _ _ _) hS00 (n := 16) (m := 17) (f := 16) (by kernel_rfl) (by kernel_rfl) rfl ?_
   refine WpX.vD 0 (some 44) ?_ rfl rfl (by kernel_rfl) (fun _ _ _ h => h) rfl (fun wz hwz => ?_) ?_
   rotate_left
   ·go_simp; try (with_reducible rfl)
   simp only [Zp, Zq, Zr, Zs]
   refine WpX.vD 1 (some 45) ?_ rfl rfl (by kernel_rfl) (fun _ _ _ h => h) rfl (fun wz hwz => ?_) ?_
   rotate_left
   ·go_simp; try (with_reducible rfl)
   simp only [Zp, Zq, Zr, Zs]
   refine WpX.vD 2 (some 46) ?_ rfl rfl (by kernel_rfl) (fun _ _ _ h => h) rfl (fun wz hwz => ?_) ?_
   rotate_left
   ·go_simp; try (with_reducible rfl)
   simp only [Zp, Zq, Zr, Zs]
   refine WpX.vD 3 (some 47) ?_ rfl rfl (by kernel_rfl) (fun _ _ _ h => h) rfl (fun wz hwz => ?_) ?_
   rotate_left
   ·(have hz2 := hwz.st.to2; obtain ⟨z0, z1, z2, z3, z4⟩ := V2.mk hz2.c0 hz2.c1 hz2.f0 hz2.f1 hz2.lt; go_simp; try (with_reducible rfl))
   simp only [Zp, Zq, Zr, Zs]
   refine WpX.vD 4 (some 48) ?_ rfl rfl (by kernel_rfl) (fun _ _ _ h => h) rfl (fun wz hwz => ?_) ?_
   rotate_left
   ·go_simp; try (with_reducible rfl)
   simp only [Zp, Zq, Zr, Zs]
   refine WpX.vD 5 (some 49) ?_ rfl rfl (by kernel_rfl) (fun _ _ _ h => h) rfl (fun wz hwz => ?_) ?_
   rotate_left
   ·go_simp; try (with_reducible rfl)
   simp only [Zp, Zq, Zr, Zs]
   refine WpX.vD 6 (some 50) ?_ rfl rfl (by kernel_rfl) (fun _ _ _ h => h) rfl (fun wz hwz => ?_) ?_
   rotate_left
   ·go_simp; try (with_reducible rfl)
   simp only [Zp, Zq, Zr, Zs]
   refine WpX.vD 7 (some 51) ?_ rfl rfl (by kernel_rfl) (fun _ _ _ h => h) rfl (fun wz hwz => ?_) ?_
   rotate_left
   ·go_simp; try (with_reducible rfl)
   simp only [Zp, Zq, Zr, Zs]
   refine WpX.vD 8 (some 52) ?_ rfl rfl (by kernel_rfl) (fun _ _ _ h => h) rfl (fun wz hwz => ?_) ?_
   rotate_left
   ·(have hz2 := hwz.st.to2; obtain ⟨z0, z1, z2, z3, z4⟩ := V2.mk hz2.c0 hz2.c1 hz2.f0 hz2.f1 hz2.lt; go_simp; try (with_reducible rfl))
   simp only [Zp, Zq, Zr, Zs]
   refine WpX.vD 9 (some 53) ?_ rfl rfl (by kernel_rfl) (fun _ _ _ h => h) rfl (fun wz hwz => ?_) ?_
   rotate_left
   ·go_simp; try (with_reducible rfl)
   simp only [Zp, Zq, Zr, Zs]
   refine WpX.vD 10 (some 54) ?_ rfl rfl (by kernel_rfl) (fun _ _ _ h => h) rfl (fun wz hwz => ?_) ?_
   rotate_left
   ·go_simp; try (with_reducible rfl)
   simp only [Zp, Zq, Zr, Zs]
   refine WpX.vD 11 (some 55) ?_ rfl rfl (by kernel_rfl) (fun _ _ _ h => h) rfl (fun wz hwz => ?_) ?_
   rotate_left
   ·(have z0 := hwz.rows.cell i _ HUI.out; have z1 := hwz.rows.lt; go_simp; try (with_reducible rfl))
   simp only [Zp, Zq, Zr, Zs]
   refine WpX.vD 12 (some 56) ?_ rfl rfl (by kernel_rfl) (fun _ _ _ h => h) rfl (fun wz hwz => ?_) ?_
   rotate_left
   ·(obtain ⟨z0, z1⟩ := hwz.bx.row 0 _ rfl; rw [Nat.zero_mul] at z0 z1; have z2 := hwz.bx.lt; go_simp; try (with_reducible rfl))
   simp only [Zp, Zq, Zr, Zs]
   refine WpX.oneD 13 (some 57) rfl rfl (by kernel_rfl) (fun b : Nat => Value.slice (some ⟨b, 0, none⟩) 1 1) (fun _ => AkT D w wb lb cp sz n us xb x) (fun nb => AkS1 D w wb lb cp sz n us (apn ls xs i) xb x nb) (Turns.val rfl (fun _ _ h => h) (fun _ _ h => h.1.1) (fun nb => AkS1.clo _ _ _ _ _ _ _ _ _ _ _ nb) (fun wz hS => ⟨wz.heap.size, wz.alloc (.cells #[.int .u64 (lo x), .int .u64 (hi x)] 36), by go_simp; try rfl, hS.mk1⟩)) (fun nb => ?_)
   simp only [Zp, Zq, Zr, Zs]
   refine WpX.oneD 14 (some 58) rfl rfl (by kernel_rfl) (fun q : Nat × Nat => Value.slice (some ⟨q.1, 0, none⟩) m1 q.2) (fun _ => AkT D w wb lb cp sz n us xb x) (fun q => AkS2 D w wb lb cp sz n us (apn ls xs i) xb x i l (.slice (some ⟨q.1, 0, none⟩) m1 q.2)) (Turns.val rfl (fun _ _ h => h) (fun _ _ h => h.1) (fun q => AkS2.clo _ _ _ _ _ _ _ _ _ _ _ _ _ _) (fun wz hS => by obtain ⟨q, w', hr, hK⟩ := HAPP.out nb wz hS _; exact ⟨q, w', exec_append (.tmp 55) (.tmp 57) rfl rfl rfl hr, hK⟩)) (fun q => ?_)
   simp only [Zp, Zq, Zr, Zs]
   refine WpX.vD 15 (some 59) ?_ rfl rfl (by kernel_rfl) (fun _ _ _ h => h) rfl (fun wz hwz => ?_) ?_
   rotate_left
   ·go_simp; try (with_reducible rfl)
   simp only [Zp, Zq, Zr, Zs]
   refine WpX.done (by kernel_rfl) (fun w5 hS => ?_)
   (try simp only [List.drop_succ_cons]); (try simp only [List.drop_zero]); (try simp only [Nat.reduceSub]); (try simp only [List.take_succ_cons]); (try simp only [List.take_zero])
   have HS2 := Lib.hid hS
   have z0 := hS.1.rows.cell i _ HUI.out
   have z1 := hS.1.rows.frz i (by rw [HUL.out]; exact hlt)
   have z2 := hS.1.rows.lt
   clear hS
   go_wp2_with fail
   go_roundw
   case rel =>
    obtain ⟨k1, k2, k3⟩ := HS2.out.put (by rw [HUL.out]; exact hlt) HLI.out HXI.out HDQ.out hlbD.out
    exact ⟨i + 1, _, by omega, by go_num, k1, k3, k2⟩
   case measure => simp [intOf]; omega
  ·obtain rfl : i = n := by omega
   have HF := Lib.hid hWI
   clear hWI
   go_wp2_with fail
   go_ret
   have h1 := HF.out
   rw [← HLN.out] at h1
   exact ⟨rfl, us, h1, fun q hq => by rw [HDD.out]; exact hDq q hq, by rw [HDD.out]; exact hexc⟩
end

end Go.Proofs.YtfbfbijkkbflkaaGreatDoor

namespace Go.Proofs.YtfbfbijkkbflkaaGreatDoor
open Go.RowKit Fm
set_option linter.unusedVariables false
set_option maxRecDepth 100000

structure CapP {f : Nat} (E : Nat → Prop) (wE : World) (pb gb yb wb : Nat) (kd : Int) (sl : Value) (nn : Int) (cs : List Value) (gd : Gad f) : Prop where
 p : Vs wE pb [.pointer (some ⟨wb, 0, none⟩)]
 g : Vs wE gb [.int .u8 kd, sl, .int .i64 nn]
 y : Vs wE yb cs
 r : RepG wE wE.heap.size kd sl nn gd
 ep : E pb
 eg : E gb
 ey : E yb
 es : ∀ (p : Addr) (a c : Nat), sl = .slice (some p) a c → E p.block
 lt : ∀ q, E q → q < wE.heap.size
theorem CapP.at {f : Nat} {E : Nat → Prop} {wE w : World} {pb gb yb wb : Nat} {kd : Int} {sl : Value} {nn : Int} {cs : List Value} {gd : Gad f} (h : CapP E wE pb gb yb wb kd sl nn cs gd) (ha : Agr E wE w) :
  Vs w pb [.pointer (some ⟨wb, 0, none⟩)] ∧ Vs w gb [.int .u8 kd, sl, .int .i64 nn] ∧ Vs w yb cs ∧ RepG w w.heap.size kd sl nn gd :=
 ⟨h.p.sameW (ha _ h.ep), h.g.sameW (ha _ h.eg), h.y.sameW (ha _ h.ey), h.r.same fun p a c hs => ⟨ha _ (h.es p a c hs), ha.lt (h.es p a c hs) (h.lt _ (h.es p a c hs))⟩⟩
theorem Agr.exc {E S : Nat → Prop} {wE w w' : World} (h : Agr E wE w) (hb : Exc S w.heap.size w w') (hn : ∀ q, E q → ¬ S q) (hl : ∀ q, E q → q < wE.heap.size) : Agr E wE w' :=
 fun q hq => (hb.block q (h.lt hq (hl q hq)) (hn q hq)).trans (h q hq)

section
variable {f : Nat} (hf : IsF f)
include hf

set_option maxHeartbeats 4000000 in
theorem prove_closure (E : Nat → Prop) (wE : World) (pb gb yb wb sz : Nat) (kd : Int) (sl : Value) (nn K B N M C : Int) (gd : Gad f) (hC : CapP E wE pb gb yb wb kd sl nn [.int .u8 K, .int .u8 f, .int .i64 B, .int .i64 N, .int .i64 M, .int .i64 C] gd)
  (lsOf : Nat → List (KL f)) (k : Nat) (l : KL f) (hlen : ∀ (i : Nat) (x : KL f), (lsOf k)[i]? = some x → x.length = k + 1) (hk : k + 1 < sz) (hsz : sz ≤ 4096) (hll : (lsOf k).length = gd.arity) (hla : l.length = gd.arity) (ha1 : 1 ≤ gd.arity) (ha2 : gd.arity ≤ 32) (hstep : apn (lsOf k) l (lsOf k).length = lsOf (k + 1))
  (D : Nat → Prop) (w : World) (va : Value) (hst : St (InvW wb sz E (Agr E wE) lsOf k) D w) (hl : SlX D w va l) :
  Calls Tryz.prog 84 #[va, .pointer (some ⟨pb, 0, none⟩), .pointer (some ⟨gb, 0, none⟩), .pointer (some ⟨yb, 0, none⟩)] w fun e w' => e = .returned (.tuple #[vK (gval gd l), .int .i64 0]) ∧
   ∃ D', St (InvW wb sz E (Agr E wE) lsOf (k + 1)) D' w' ∧ (∀ q, D' q → D q ∨ w.heap.size ≤ q) ∧ Exc D w.heap.size w w' := by
 obtain ⟨lb, cp, vs, hW, hDD, hEW, hAg⟩ := hst.here
 have hWD : ∀ q, WrD wb lb vs q → D q := fun q hq => (hDD q).2 (.inl hq)
 have hltE := hC.lt
 have HASK : Hid (∀ wz, Below w.heap.size w wz → Calls Tryz.prog 66 #[.pointer (some ⟨wb, 0, none⟩), va] wz (RetAsk wb lb cp sz vs (lsOf k) l wz)) := fun wz hb => proof_ask wb lb cp sz k vs (lsOf k) l va wz (hW.call hb) hlen hk hsz ((hl.call hb).set fun b hb => .inl (hWD b hb)) (hla.trans hll.symm) (by omega) (by omega)
 have HOF := Lib.hid (fun wz (h : RepG wz wz.heap.size kd sl nn gd) (hs : SlK wz wz.heap.size va l) => gadget_Of hf wz gd kd sl nn h va l hs hla)
 obtain ⟨z, hz⟩ : ∃ z, gval gd l = z := ⟨_, rfl⟩
 rw [hz] at HOF ⊢
 obtain ⟨h1, h2, h3, h4⟩ := hC.at hAg
 have HCC := Lib.hid hC
 have HAG := Lib.hid hAg
 have HST := Lib.hid hst
 have HSL := Lib.hid hl
 have HW := Lib.hid hW
 have HD := Lib.hid hDD
 have HEW := Lib.hid hEW
 have HSTEP := Lib.hid hstep
 have HLT := Lib.hid hltE
 have HWD := Lib.hid hWD
 obtain ⟨A, cl, cc, rfl⟩ : ∃ (A : Option Addr) (a c : Nat), va = .slice A a c := hl.isSl
 obtain ⟨A2, a2, c2, rfl⟩ := RepG.sl h4
 clear hz hla hll ha1 ha2 hstep hk hsz hlen hst hl hW hDD hEW hAg hC h1 h2 h3 h4 hltE hWD
 go_enter Tryz.func84, Tryz.ntmps84
 go_upto_region 1 with fail
 have s0 := V2.new w (.int .u64 0) (.int .u64 0) 36
 have hbA : Below w.heap.size w (w.alloc (.cells #[.int .u64 0, .int .u64 0] 36)) := (Below.refl _ _).alloc (Nat.le_refl _) _
 have hsz1 : (w.alloc (.cells #[.int .u64 0, .int .u64 0] 36)).heap.size = w.heap.size + 1 := World.size_alloc _ _
 generalize w.alloc (.cells #[.int .u64 0, .int .u64 0] 36) = w1 at s0 hbA hsz1 ⊢
 have hAg1 : Agr E wE w1 := HAG.out.exc (S := fun _ => False) (exc_of hbA) (fun q _ h => h) HLT.out
 have hs0 : ¬ WrD wb lb vs w.heap.size := fun h => by have := HW.out.lt _ h; omega
 have p0 := (HCC.out.at hAg1).1.get1
 obtain ⟨p1, p2, p3⟩ := p0
 have HAG1 := Lib.hid hAg1
 have HS0 := Lib.hid hs0
 have HS1 := Lib.hid hsz1
 have HBA := Lib.hid hbA
 have HV0 := Lib.hid s0
 clear hAg1 hs0 hsz1 hbA s0
 go_upto_region 2 with (go_at_call 66; refine (HASK.out _ HBA.out).mono ?_; rintro e w2 ⟨rfl, us, hW2, hD2, hE2⟩; clear p1 p2 p3)
 have hAg2 : Agr E wE w2 := HAG1.out.exc hE2 HEW.out HLT.out
 have hE02 : Exc D w.heap.size w w2 := (exc_of HBA.out).more hE2 (fun q hq => .inl (HWD.out q hq))
 have hv2 : V2 w2 w.heap.size (.int .u64 0) (.int .u64 0) := HV0.out.exc HS0.out hE2
 have hsk := (HSL.out.exc hE02).toK
 obtain ⟨h1, hgg, hyy, h4⟩ := HCC.out.at hAg2
 have HR2 := Lib.hid h4
 have HSK := Lib.hid hsk
 have HV2 := Lib.hid hv2
 have HE02 := Lib.hid hE02
 have HAG2 := Lib.hid hAg2
 have HW2 := Lib.hid hW2
 have HD2 := Lib.hid hD2
 have hs12 := hE2.size
 clear h1 h4 hsk hv2 hE02 hAg2 hW2 hD2 hE2
 obtain ⟨gg0, gg1, gg2, gg3, gg4, gg5, gg6⟩ := hgg.get3
 obtain ⟨⟨yy0, yy1, yy2, yy3, yy4, yy5⟩, ⟨yy6, yy7, yy8, yy9, yy10, yy11⟩, yy12⟩ := hyy.get6
 go_wp2_with (go_at_call 37; refine (HOF.out _ HR2.out HSK.out).mono ?_; rintro e w3 ⟨rfl, hb3⟩; have HB3 := Lib.hid hb3; obtain ⟨t0, t1, t2, t3, t4⟩ := HV2.out.call hb3; clear hb3)
 have hs1 := HS1.out
 have hlw : ∀ q, WrD wb lb us q → q ≠ w.heap.size := fun q hq e => by
  rcases HD2.out q hq with h | h
  ·exact HS0.out (e ▸ h)
  ·omega
 have hlE : ∀ q, E q → q < w.heap.size := fun q hq => HAG.out.lt hq (HLT.out q hq)
 refine bodyPost_ret (results_v2_tmp (b := w.heap.size) (u := .int .u64 (lo z)) (v := .int .u64 (hi z)) ?_ rfl rfl) rfl ?_
 ·exact V2.set ⟨t0, t1, t2, t3, t4⟩ _ _
 ·refine ⟨rfl, fun q => WrD wb lb us q ∨ E q, InvW.st ⟨lb, cp, us, ?_, fun q => Iff.rfl, ?_, ?_⟩ (fun w h q hq => h.lt hq (HLT.out q hq)) (fun w w' h hb q hq => (hb q hq).trans (h q hq)), ?_, ?_⟩
  ·rw [← HSTEP.out]
   exact (HW2.out.call HB3.out).same fun q hq => (Below.heap_setCell _ _ _ _ (hlw q hq)).trans (Below.heap_setCell _ _ _ _ (hlw q hq))
  ·exact fun q hq hw => (HD2.out q hw).elim (HEW.out q hq) (fun h => by have := hlE q hq; omega)
  ·intro q hq
   have h0 : q ≠ w.heap.size := Nat.ne_of_lt (hlE q hq)
   exact ((Below.heap_setCell _ _ _ _ h0).trans (Below.heap_setCell _ _ _ _ h0)).trans ((HB3.out.block q (HAG2.out.lt hq (HLT.out q hq))).trans (HAG2.out q hq))
  ·exact fun q hq => hq.elim (fun h => (HD2.out q h).imp (HWD.out q) (fun h => by omega)) (fun h => .inl ((HD.out q).2 (.inr h)))
  ·exact (HE02.out.call HB3.out).st (Nat.le_refl _) _ _
end

end Go.Proofs.YtfbfbijkkbflkaaGreatDoor

namespace Go.Proofs.YtfbfbijkkbflkaaGreatDoor.Fm
set_option linter.unusedVariables false

section
variable {f : Nat}
def dcv (a b : Nat → Fin (Pm f)) (I K m : Nat) : Fin (Pm f) :=
 sm (fun i => if i ≤ m then a i * b (m - i) else 0) I + if I ≤ m ∧ m < I + K then a I * b (m - I) else 0
theorem dcv_zero (a b : Nat → Fin (Pm f)) (m : Nat) : dcv a b 0 0 m = 0 := by
 unfold dcv
 rw [sm_zero, if_neg (by omega)]
 grind
theorem dcv_at (a b : Nat → Fin (Pm f)) (I K : Nat) : dcv a b I (K + 1) (I + K) = dcv a b I K (I + K) + a I * b K := by
 unfold dcv
 rw [if_pos (by omega), if_neg (by omega), Nat.add_sub_cancel_left]
 grind
theorem dcv_other (a b : Nat → Fin (Pm f)) (I K m : Nat) (h : m ≠ I + K) : dcv a b I (K + 1) m = dcv a b I K m := by
 unfold dcv
 by_cases h1 : I ≤ m ∧ m < I + K
 ·rw [if_pos h1, if_pos (by omega)]
 ·rw [if_neg h1, if_neg (by omega)]
theorem dcv_row (a b : Nat → Fin (Pm f)) (I lb m : Nat) (hb : ∀ j, lb ≤ j → b j = 0) : dcv a b I lb m = dcv a b (I + 1) 0 m := by
 unfold dcv
 rw [sm_succ, if_neg (c := I + 1 ≤ m ∧ m < I + 1 + 0) (by omega)]
 by_cases h1 : I ≤ m
 ·rw [if_pos h1]
  by_cases h2 : m < I + lb
  ·rw [if_pos ⟨h1, h2⟩]
   grind
  ·rw [if_neg (by omega), hb (m - I) (by omega)]
   grind
 ·rw [if_neg (c := I ≤ m) h1, if_neg (by omega)]
  grind
theorem dcv_end (a b : Nat → Fin (Pm f)) (la m : Nat) (ha : ∀ j, la ≤ j → a j = 0) : dcv a b la 0 m = cv a b m := by
 unfold dcv cv
 rw [if_neg (by omega)]
 have h1 : sm (fun i => if i ≤ m then a i * b (m - i) else 0) (la + (m + 1)) = sm (fun i => if i ≤ m then a i * b (m - i) else 0) la := sm_more (by omega) (fun i h1 h2 => by rw [ha i h1]; split <;> grind)
 have h2 : sm (fun i => if i ≤ m then a i * b (m - i) else 0) (la + (m + 1)) = sm (fun i => if i ≤ m then a i * b (m - i) else 0) (m + 1) := sm_more (by omega) (fun i h1 h2 => by rw [if_neg (by omega)])
 rw [← h1, h2, sm_congr (h := fun i => a i * b (m - i)) (fun i hi => by rw [if_pos (by omega)])]
 grind
def dl (a b : List (Fin (Pm f))) (I K : Nat) : List (Fin (Pm f)) := ofF (a.length + b.length - 1) (dcv (fun i => a.getD i 0) (fun i => b.getD i 0) I K)
theorem dl_length (a b : List (Fin (Pm f))) (I K : Nat) : (dl a b I K).length = a.length + b.length - 1 := ofF_length ..
theorem dl_zero (a b : List (Fin (Pm f))) : dl a b 0 0 = List.replicate (a.length + b.length - 1) 0 := by
 refine List.ext_getElem (by rw [dl_length, List.length_replicate]) fun i h1 h2 => ?_
 simp [dl, ofF, dcv_zero]
theorem dl_next (a b : List (Fin (Pm f))) (I K : Nat) (hI : I < a.length) (hK : K < b.length) (z : Fin (Pm f)) (hz : z = (dl a b I K).getD (I + K) 0 + a.getD I 0 * b.getD K 0) : (dl a b I K).set (I + K) z = dl a b I (K + 1) := by
 refine ofF_set _ _ _ _ _ ?_ fun m hm hne => dcv_other _ _ _ _ _ hne
 rw [dcv_at, hz]
 unfold dl
 rw [ofF_getD, if_pos (by omega)]
theorem dl_row (a b : List (Fin (Pm f))) (I : Nat) : dl a b I b.length = dl a b (I + 1) 0 := ofF_congr fun m _ => dcv_row _ _ _ _ _ fun j hj => getD_end hj
theorem dl_end (a b : List (Fin (Pm f))) : dl a b a.length 0 = prodL a b := ofF_congr fun m _ => dcv_end _ _ _ _ fun j hj => getD_end hj

theorem pmul_trim {a b : List (Fin (Pm f))} (ha : a.length ≤ 400000) (hb : b.length ≤ 400000) : pmul (trim a) (trim b) = pmul a b := by
 have h1 := trim_le a
 have h2 := trim_le b
 refine trim_ev (by rw [prodL_length]; omega) (by rw [prodL_length]; omega) fun x => ?_
 rw [prodL_ev, prodL_ev, ev_trim, ev_trim]
theorem pmul_nil_left (b : List (Fin (Pm f))) : pmul [] b = [] := trim_nil fun i => by
 unfold prodL
 rw [ofF_getD]
 split
 ·exact sm_none fun i _ => by
   show (0 : Fin (Pm f)) * _ = 0
   grind
 ·rfl
theorem pmul_nil_right (a : List (Fin (Pm f))) : pmul a [] = [] := trim_nil fun i => by
 unfold prodL
 rw [ofF_getD]
 split
 ·exact sm_none fun i _ => by
   show _ * (0 : Fin (Pm f)) = 0
   grind
 ·rfl
end

end Go.Proofs.YtfbfbijkkbflkaaGreatDoor.Fm

namespace Go.Proofs.YtfbfbijkkbflkaaGreatDoor
open Go.RowKit Fm
set_option linter.unusedVariables false
set_option maxRecDepth 100000

section
variable {f : Nat}
def comp (p : KL f) : KL f → KL f
 | [] => []
 | c :: cs => padd (pmul (comp p cs) p) [c]
def ppsum (l : List (KL f)) : Nat → KL f
 | 0 => []
 | k + 1 => padd (ppsum l k) (pmul (l.getD (2 * k) []) (l.getD (2 * k + 1) []))
def gpoly (g : Gad f) (l : List (KL f)) : KL f :=
 match g with
 | .mul => ppsum l 1
 | .eval cs => comp (l.getD 0 []) cs
 | .par n => ppsum l n

theorem pmul_le2 {p q : KL f} {M : Nat} (hp : p.length ≤ M) (hq : q.length ≤ M) : (pmul p q).length ≤ 2 * (M - 1) + 1 := by
 have := pmul_le p q
 omega
theorem ppsum_le {l : List (KL f)} {M : Nat} (h : ∀ i, (l.getD i []).length ≤ M) : ∀ k, (ppsum l k).length ≤ 2 * (M - 1) + 1
 | 0 => Nat.zero_le _
 | k + 1 => by
  have h1 := padd_le (ppsum l k) (pmul (l.getD (2 * k) []) (l.getD (2 * k + 1) []))
  have h2 := pmul_le2 (h (2 * k)) (h (2 * k + 1))
  have h3 := ppsum_le h k
  show (padd _ _).length ≤ _
  omega
theorem comp_le (p : KL f) : ∀ cs : KL f, (comp p cs).length ≤ (cs.length - 1) * (p.length - 1) + 1
 | [] => Nat.zero_le _
 | c :: cs => by
  have h1 := padd_le (pmul (comp p cs) p) [c]
  have h2 := pmul_le (comp p cs) p
  have h3 := comp_le p cs
  show (padd _ _).length ≤ _
  simp only [List.length_cons, List.length_nil] at h1 ⊢
  cases cs with
  | nil =>
   have h6 : (pmul (comp p []) p).length = 0 := by
    show (pmul [] p).length = 0
    rw [pmul_nil_left]
    rfl
   omega
  | cons d cs =>
   simp only [List.length_cons] at h3 ⊢
   by_cases hp : p.length = 0
   ·have h6 : (pmul (comp p (d :: cs)) p).length = 0 := by
     rw [List.length_eq_zero_iff.1 hp, pmul_nil_right]
     rfl
    omega
   ·have h5 : (cs.length + 1 + 1 - 1) * (p.length - 1) = (cs.length + 1 - 1) * (p.length - 1) + (p.length - 1) := by
     rw [show cs.length + 1 + 1 - 1 = (cs.length + 1 - 1) + 1 by omega, Nat.succ_mul]
    omega
theorem gpoly_le {g : Gad f} {l : List (KL f)} {M : Nat} (h : ∀ i, (l.getD i []).length ≤ M) : (gpoly g l).length ≤ g.degree * (M - 1) + 1 := by
 cases g with
 | mul => exact ppsum_le h 1
 | par n => exact ppsum_le h n
 | eval cs =>
  refine Nat.le_trans (comp_le _ cs) ?_
  have := h 0
  have h2 : (cs.length - 1) * ((l.getD 0 []).length - 1) ≤ (cs.length - 1) * (M - 1) := Nat.mul_le_mul_left _ (by omega)
  show _ ≤ (cs.length - 1) * (M - 1) + 1
  omega
end

end Go.Proofs.YtfbfbijkkbflkaaGreatDoor

namespace Go.Proofs.YtfbfbijkkbflkaaGreatDoor
open Go.RowKit Fm
set_option linter.unusedVariables false
set_option maxRecDepth 100000

section
variable {f : Nat} (hf : IsF f)
include hf

omit hf in
theorem SlE.takeN {w : World} {B : Nat} {A : Option Addr} {c : Nat} {l : List E} {n L : Nat} (h : SlE w B (.slice A L c) l) (hn : n ≤ L) : SlE w B (.slice A n c) (l.take n) := by
 obtain ⟨⟨A', c', hh, h1, h2, h3⟩, hok⟩ := h
 injection hh with e1 e2 e3
 subst e1 e2 e3
 have hl : (l.take n).length = n := by rw [List.length_take]; omega
 refine ⟨⟨A, c, by rw [hl], by omega, h2, fun h0 => ?_⟩, fun e he => hok e (List.mem_of_mem_take he)⟩
 rw [hl] at h0
 obtain ⟨b, o, hA, hB, hr⟩ := h3 (by omega)
 refine ⟨b, o, hA, hB, fun i e hi => hr i e ?_⟩
 rw [List.getElem?_take] at hi
 split at hi
 ·exact hi
 ·cases hi
end

end Go.Proofs.YtfbfbijkkbflkaaGreatDoor

namespace Go.Proofs.YtfbfbijkkbflkaaGreatDoor
open Go.RowKit Fm
set_option linter.unusedVariables false
set_option maxRecDepth 100000

section
variable {f : Nat}

def RetSq (l : KL f) (w : World) (e : Ending) (w' : World) : Prop := ∃ q : Option Addr × Nat, e = .returned (.slice q.1 l.length q.2) ∧ SlK w' w'.heap.size (.slice q.1 l.length q.2) l ∧ Below w.heap.size w w'
theorem RetOwn.sq {l : KL f} {w w' : World} {e : Ending} (h : RetOwn l w e w') : RetSq l w e w' := by
 obtain ⟨v, rfl, ho, hb⟩ := h
 obtain ⟨A, c, rfl⟩ := own_shape ho
 exact ⟨(A, c), rfl, own_sl rfl ho, hb⟩

set_option maxHeartbeats 2000000 in
theorem slices_Clone (vl : Value) (l : KL f) (w : World) (hs : SlK w w.heap.size vl l) (hn : l.length ≤ 1000000) :
  Calls Tryz.prog 145 #[vl] w (RetOwn l w) := by
 obtain ⟨A, c, rfl, hc, hcm, hA⟩ := hs
 cases A with
 | none =>
  have hl : l = [] := by
   cases l with
   | nil => rfl
   | cons a l =>
    obtain ⟨b, o, h, _⟩ := hA (by simp)
    cases h
  subst hl
  have hnil := Lib.run_eql_slice_nil (P := Tryz.prog)
  go_enter Tryz.func145, Tryz.ntmps145
  go_wp2
  go_ret
  exact ⟨_, rfl, World.ownsRow_nil _ _ _ _, Below.refl _ _⟩
 | some p =>
  have hown0 : (w.alloc (.cells #[] 36)).ownsRow w.heap.size 36 2 (.slice (some ⟨w.heap.size, 0, none⟩) 0 0) 0 (cellsE []) := World.ownsRow_made w #[] 0 (Nat.le_refl _) (by unfold maxLen; omega) rfl
  have hb1 : Below w.heap.size w (w.alloc (.cells #[] 36)) := (Below.refl _ _).alloc (Nat.le_refl _) _
  have HYR : Hid (0 < l.length → ∃ b o, (some p : Option Addr) = some ⟨b, o, none⟩ ∧ RowE (w.alloc (.cells #[] 36)) b o (esK l)) := by
   intro h
   obtain ⟨b, o, h1, h2, h3⟩ := hA h
   exact ⟨b, o, h1, h3.below hb1 h2⟩
  have hnil := Lib.run_eql_slice_nil (P := Tryz.prog)
  have HEL := Lib.hid (esK_length l)
  have HW := Lib.hid hown0
  clear hA hown0
  go_enter Tryz.func145, Tryz.ntmps145
  go_wp2_with (at_builtin; (refine wpList_append_E rfl (.tmp 5) (.tmp 6) rfl w.heap.size _ 0 [] rfl HW.out (some p) l.length c (esK l) rfl HEL.out HYR.out (by omega) (by simp) ?_; intro v2 w2 hown2 hg2 hat2; have hb2 : Below w.heap.size w w2 := hb1.trans ((Below.refl _ _).grown hg2 (by simp) (fun k hk => Nat.le_of_eq (Option.some.inj hk)))))
  go_ret
  exact ⟨_, rfl, by simpa using hown2, hb2⟩

theorem SlK.takeK {w : World} {B : Nat} {A : Option Addr} {c n : Nat} {l : KL f} (h : SlK w B (.slice A l.length c) l) (hn : n ≤ l.length) : SlK w B (.slice A n c) (l.take n) := by
 have h1 := (h.toE.takeN hn)
 rw [show (esK l).take n = esK (l.take n) by unfold esK; rw [List.map_take]] at h1
 exact h1.toK

theorem vK_eq (x y : Fin (Pm f)) : (lo x == lo y && hi x == hi y) = decide (x = y) := by
 by_cases h : x = y
 ·subst h
  simp
 ·rw [decide_eq_false h]
  cases h1 : (lo x == lo y) with
  | false => rfl
  | true =>
   cases h2 : (hi x == hi y) with
   | false => rfl
   | true => exact absurd (lohi_inj (by simpa using h1) (by simpa using h2)) h
theorem vK_eq0 (x : Fin (Pm f)) : (lo x == 0 && hi x == 0) = decide (x = 0) := by
 have h := vK_eq x 0
 rwa [lo_zero, hi_zero] at h

set_option maxHeartbeats 4000000 in
theorem poly_Trim (vl : Value) (l : KL f) (w : World) (hs : SlK w w.heap.size vl l) (hn : l.length ≤ 1000000) :
  Calls Tryz.prog 135 #[vl] w (RetOwn (trim l) w) := by
 have H0 := Lib.hid hs
 have heq := eql_elem
 have HE := Lib.hid (vK_eq0 (f := f))
 obtain ⟨A, c, rfl, hc, hcm, hA⟩ := hs
 have HA := Lib.hid hA
 clear hA
 go_enter Tryz.func135, Tryz.ntmps135
 go_wp2
 go_loop [3] (fun nv => ∃ n : Nat, n ≤ l.length ∧ nv = .int .i64 n ∧ Hid (∀ i, n ≤ i → l.getD i 0 = 0)) (fun nv => (intOf nv).toNat)
 case atStart => exact ⟨l.length, Nat.le_refl _, rfl, fun i hi => Fm.getD_end hi⟩
 case round =>
  obtain ⟨n, hnl, rfl, hz⟩ := hrel
  by_cases hn0 : n = 0
  ·subst hn0
   have HT : Hid (trim l = l.take 0) := trim_cut 0 (Nat.zero_le _) hz.out (.inl rfl)
   clear hz
   have HS : Hid (SlK w w.heap.size (.slice A 0 c) (l.take 0)) := H0.out.takeK hnl
   have HTL : Hid ((l.take 0).length ≤ 1000000) := by show _ ≤ _; rw [List.length_take]; omega
   go_wp2_with fail
   refine (slices_Clone _ (l.take 0) w HS.out HTL.out).mono ?_
   rintro e w1 ⟨v, rfl, ho, hb1⟩
   go_wp2
   go_ret
   exact ⟨_, rfl, by rw [HT.out]; exact ho, hb1⟩
  ·obtain ⟨m, rfl⟩ : ∃ m, n = m + 1 := ⟨n - 1, by omega⟩
   obtain ⟨x, hx⟩ : ∃ x, l[m]? = some x := ⟨_, List.getElem?_eq_getElem (by omega)⟩
   have hxd : l.getD m 0 = x := by rw [List.getD_eq_getElem?_getD, hx]; rfl
   obtain ⟨b, o, hAe, hB, hrow⟩ := HA.out (by omega)
   obtain ⟨c0, c1⟩ := hrow.kat hx
   have hml : m < l.length := by omega
   have g1 : (0 : Int) ≤ (m : Int) := by omega
   have g2 : (m : Int) < (l.length : Int) := by omega
   have hbx := HE.out x
   by_cases hx0 : x = 0
   ·rw [decide_eq_true hx0] at hbx
    have HZ : Hid (∀ i, m ≤ i → l.getD i 0 = 0) := fun i hi => by
     by_cases he : i = m
     ·rw [he, hxd, hx0]
     ·exact hz.out i (by omega)
    subst hAe
    clear hx0 hz hxd hx hrow
    go_wp2
    go_round
    case rel => exact ⟨m, by omega, by go_num, HZ.out⟩
    case measure => simp [intOf]
   ·rw [decide_eq_false hx0] at hbx
    have HT : Hid (trim l = l.take (m + 1)) := trim_cut (m + 1) hnl hz.out (.inr (by rw [Nat.add_sub_cancel, hxd]; exact hx0))
    subst hAe
    clear hx0 hz hxd hx hrow
    have HS : Hid (SlK w w.heap.size (.slice (some ⟨b, o, none⟩) (m + 1) c) (l.take (m + 1))) := H0.out.takeK hnl
    have HTL : Hid ((l.take (m + 1)).length ≤ 1000000) := by show _ ≤ _; rw [List.length_take]; omega
    go_wp2_with fail
    refine (slices_Clone _ (l.take (m + 1)) w HS.out HTL.out).mono ?_
    rintro e w1 ⟨v, rfl, ho, hb1⟩
    go_wp2
    go_ret
    exact ⟨_, rfl, by rw [HT.out]; exact ho, hb1⟩

end

end Go.Proofs.YtfbfbijkkbflkaaGreatDoor

namespace Go.Proofs.YtfbfbijkkbflkaaGreatDoor
open Go.RowKit Fm
set_option linter.unusedVariables false
set_option maxRecDepth 100000

theorem RwK.new {f : Nat} (w : World) (l : KL f) (a : Array Value) (h : a = (cellsE (esK l)).toArray) (t : TypeId) : RwK (w.alloc (.cells a t)) w.heap.size l := Vs.new w _ _ _ h

section
variable {f : Nat} (hf : IsF f)
include hf

end

end Go.Proofs.YtfbfbijkkbflkaaGreatDoor
