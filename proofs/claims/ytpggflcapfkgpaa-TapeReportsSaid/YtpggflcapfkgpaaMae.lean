/-
 Field, Pair, Append, Tape, Some, K: what the statements of this layer share.
-/
import Derived.Maps.AppendAt
import Derived.Test.YtpggflcapfkgpaaMad
namespace Go.Proofs.Ytpggflcapfkgpaa
open Go.RowKit Fm
set_option linter.unusedVariables false
set_option maxRecDepth 100000

theorem field_Valid (f : Int) (w : World) :
  Calls Try.prog 32 #[.int .u8 f] w fun e w' => e = .returned (.bool (f == 1 || f == 2)) ∧ w = w' := by
 by_cases h1 : f = 1
 ·subst h1
  go_enter Try.func32, Try.ntmps32
  go_wp2
  go_ret
  exact ⟨rfl, rfl⟩
 ·have hb1 : (f == 1) = false := by simp; omega
  by_cases h2 : f = 2
  ·subst h2
   go_enter Try.func32, Try.ntmps32
   go_wp2
   go_ret
   exact ⟨rfl, rfl⟩
  ·have hb2 : (f == 2) = false := by simp; omega
   go_enter Try.func32, Try.ntmps32
   go_wp2
   go_ret
   exact ⟨ret_bool (by rw [hb1, hb2]; rfl), rfl⟩

structure FM (f m : Int) : Prop where
 or : (f = 1 ∧ m = 18446744069414584321) ∨ (f = 2 ∧ m = 340282366920938462946865773367900766209)

set_option maxHeartbeats 2000000 in
theorem field_Sub (f m a0 a1 b0 b1 : Int) (w : World) (hf : FM f m) (h0 : 0 ≤ a0) (h1 : a0 ≤ 18446744073709551615) (k0 : 0 ≤ a1) (k1 : a1 ≤ 18446744073709551615)
  (g0 : 0 ≤ b0) (g1 : b0 ≤ 18446744073709551615) (j0 : 0 ≤ b1) (j1 : b1 ≤ 18446744073709551615) :
  Calls Try.prog 45 #[.int .u8 f, .agg #[.int .u64 a0, .int .u64 a1], .agg #[.int .u64 b0, .int .u64 b1]] w (RetE ((nI f a0 a1 - nI f b0 b1) % m) w) := by
 rcases hf.or with ⟨rfl, rfl⟩ | ⟨rfl, rfl⟩
 ·have s0 := V2.new ((w.alloc (.cells #[.int .u64 a0, .int .u64 a1] 55)).alloc (.cells #[.int .u64 b0, .int .u64 b1] 55)) (.int .u64 0) (.int .u64 0) 55
  go_enter Try.func45, Try.ntmps45
  go_wp2_with (go_at_call 51; refine (gold_Sub _ _ _ (by omega) (by omega) (by omega) (by omega)).mono ?_; rintro e w' ⟨rfl, rfl⟩)
  refine bodyPost_ret (by simp [results, Try.results45, go_sem]; rfl) rfl ?_
  refine ⟨_, _, rfl, ?_, ?_, by repeat (first | exact bA | with_reducible assumption | apply bB | (refine bC ?_ (by dsimp only; omega)) | apply bD | apply bE | (refine bF ?_ (by assumption)))⟩
  ·omega
  ·show _ = _
   unfold nI
   simp
 ·go_enter Try.func45, Try.ntmps45
  go_wp2_with fail
  refine (wide_Sub _ _ _ _ _ h0 h1 k0 k1 g0 g1 j0 j1).mono ?_
  rintro e w6 ⟨z0, z1, rfl, ⟨hz0, hz1, hz2, hz3⟩, HZ, hb6⟩
  have s0 := V2.new ((w.alloc (.cells #[.int .u64 a0, .int .u64 a1] 55)).alloc (.cells #[.int .u64 b0, .int .u64 b1] 55)) (.int .u64 0) (.int .u64 0) 55
  have s6 := s0.call hb6
  simp only [World.size_alloc] at s6
  clear s0
  have hs6 := s6
  obtain ⟨d60, d61, d62, d63, d64⟩ := hs6
  go_wp2
  refine bodyPost_ret (results_v2 (b := w.heap.size + 1 + 1) (u := .int .u64 z0) (v := .int .u64 z1) ?_ rfl rfl) rfl ?_
  ·exact V2.set s6 _ _
  ·refine ⟨_, _, rfl, ⟨hz0, hz1, hz2, hz3⟩, ?_, by repeat (first | exact bA | with_reducible assumption | apply bB | (refine bC ?_ (by dsimp only; omega)) | apply bD | apply bE | (refine bF ?_ (by assumption)))⟩
   show _ = _
   rw [HZ.out]
   unfold nI
   simp

theorem field_In (f m a0 a1 : Int) (w : World) (hf : FM f m) (h0 : 0 ≤ a0) (h1 : a0 ≤ 18446744073709551615) (k0 : 0 ≤ a1) (k1 : a1 ≤ 18446744073709551615) :
  Calls Try.prog 30 #[.int .u8 f, .agg #[.int .u64 a0, .int .u64 a1]] w fun e w' => e = .returned (.bool (decide (a0 + 18446744073709551616 * a1 < m))) ∧ Below w.heap.size w w' := by
 rcases hf.or with ⟨rfl, rfl⟩ | ⟨rfl, rfl⟩
 ·by_cases hz : a1 = 0
  ·subst hz
   have hd : decide (a0 + 18446744073709551616 * 0 < 18446744069414584321) = decide (a0 < 18446744069414584321) := by congr 1; simp
   rw [hd]
   clear hd
   go_enter Try.func30, Try.ntmps30
   go_wp2_with (go_at_call 42; refine (gold_In _ _ (by omega) (by omega)).mono ?_; rintro e w' ⟨rfl, rfl⟩)
   go_ret
   exact ⟨rfl, by repeat (first | exact bA | with_reducible assumption | apply bB | (refine bC ?_ (by dsimp only; omega)) | apply bD | apply bE | (refine bF ?_ (by assumption)))⟩
  ·have hb : (a1 == 0) = false := by simp; omega
   have hd : decide (a0 + 18446744073709551616 * a1 < 18446744069414584321) = false := by simp; omega
   rw [hd]
   clear hd
   go_enter Try.func30, Try.ntmps30
   go_wp2
   go_ret
   exact ⟨rfl, by repeat (first | exact bA | with_reducible assumption | apply bB | (refine bC ?_ (by dsimp only; omega)) | apply bD | apply bE | (refine bF ?_ (by assumption)))⟩
 ·go_enter Try.func30, Try.ntmps30
  go_wp2_with (go_at_call 43; refine (wide_In _ _ _ (by omega) (by omega)).mono ?_; rintro e w6 ⟨rfl, hb6⟩)
  go_ret
  exact ⟨rfl, by repeat (first | exact bA | with_reducible assumption | apply bB | (refine bC ?_ (by dsimp only; omega)) | apply bD | apply bE | (refine bF ?_ (by assumption)))⟩

end Go.Proofs.Ytpggflcapfkgpaa

namespace Go.Proofs.Ytpggflcapfkgpaa
open Go.RowKit Fm
set_option linter.unusedVariables false
set_option maxRecDepth 100000

theorem eN_of {x0 x1 n : Int} (h : x0 + 18446744073709551616 * x1 = n) (h0 : 0 ≤ x0) (h1 : x0 ≤ 18446744073709551615) : (x0, x1) = eN n := by
 unfold eN
 rw [Prod.mk.injEq]
 omega

def zipO (op : Int → Int → Int) (f m : Int) (xs ys : List E) : List E := List.zipWith (fun a b => eN (op (nI f a.1 a.2) (nI f b.1 b.2) % m)) xs ys

theorem FM.pos {f m : Int} (h : FM f m) : 0 < m ∧ m ≤ 340282366920938462946865773367900766209 := by
 rcases h.or with ⟨_, rfl⟩ | ⟨_, rfl⟩ <;> omega

theorem okE_eN' {n m : Int} (h : 0 < m ∧ m ≤ 340282366920938462946865773367900766209) : okE (eN (n % m)) := by
 have h1 := Int.emod_nonneg n (b := m) (by omega)
 have h2 := Int.emod_lt_of_pos n h.1
 exact okE_eN _ h1 (by omega)

theorem okE_zipO {op : Int → Int → Int} {f m : Int} (h : FM f m) (xs ys : List E) : ∀ e, e ∈ zipO op f m xs ys → okE e := by
 intro e he
 unfold zipO at he
 rw [List.mem_iff_getElem?] at he
 obtain ⟨i, hi⟩ := he
 rw [List.getElem?_zipWith] at hi
 split at hi
 ·simp only [Option.some.injEq] at hi
  rw [← hi]
  exact okE_eN' h.pos
 ·cases hi

theorem fill_step {α : Type} (zs : List α) (z : α) (n k : Nat) (e : α) (hz : zs.length = n) (hk : k < n) (he : zs[k]? = some e) :
  (zs.take k ++ List.replicate (n - k) z).set k e = zs.take (k + 1) ++ List.replicate (n - (k + 1)) z := by
 have hl : (zs.take k).length = k := by rw [List.length_take]; omega
 rw [List.take_add_one, he, List.set_append_right _ _ (by omega), hl, Nat.sub_self, show n - k = (n - (k + 1)) + 1 from by omega, List.replicate_succ, List.set_cons_zero]
 simp

def RetSl (w : World) (zs : List E) (e : Ending) (w' : World) : Prop :=
 ∃ g, e = .returned (.tuple #[.slice (some ⟨g, 0, none⟩) zs.length zs.length, .int .i64 0]) ∧ BlkE w' g zs ∧ w.heap.size ≤ g ∧ Below w.heap.size w w'

set_option maxHeartbeats 4000000 in
theorem pair_Sub (f m : Int) (hf : FM f m) (va vb : Value) (xs ys : List E) (w : World) (hx : SlE w w.heap.size va xs) (hy : SlE w w.heap.size vb ys) (hl : xs.length = ys.length) (hn : xs.length ≤ 1099511627776) :
  Calls Try.prog 44 #[va, vb, .func (.func 45) #[.int .u8 f] #[]] w (RetSl w (zipO (· - ·) f m xs ys)) := by
 obtain ⟨⟨A, c, rfl, hc, hcm, hA⟩, hokx⟩ := hx
 obtain ⟨⟨A', c', rfl, hc', hcm', hA'⟩, hoky⟩ := hy
 obtain ⟨zs, hzs⟩ : ∃ zs, zs = zipO (· - ·) f m xs ys := ⟨_, rfl⟩
 have hzl : zs.length = xs.length := by rw [hzs]; unfold zipO; rw [List.length_zipWith]; omega
 rw [← hzs]
 have HZS := Lib.hid hzs
 have HZL := Lib.hid hzl
 have HL := Lib.hid hl
 have hb : ((xs.length : Int) != (ys.length : Int)) = false := by simp; omega
 clear hzs hzl hl
 have hmk := make_elem xs.length hn
 go_enter Try.func44, Try.ntmps44
 go_wp2_with fail
 go_loopw [20] (fun i wr => ∃ k : Nat, k ≤ xs.length ∧ i = .int .i64 k ∧ BlkE wr w.heap.size (zs.take k ++ List.replicate (xs.length - k) (0, 0)) ∧ Below w.heap.size w wr) (fun i _ => xs.length - (intOf i).toNat)
 case atStart => exact ⟨0, Nat.zero_le _, rfl, heap_alloc_new w _, by repeat (first | exact bA | with_reducible assumption | apply bB | (refine bC ?_ (by dsimp only; omega)) | apply bD | apply bE | (refine bF ?_ (by assumption)))⟩
 case round =>
  obtain ⟨k, hk, rfl, HB, hbw⟩ := hrel
  by_cases hlt : k < xs.length
  ·obtain ⟨b, o, rfl, hB, hr⟩ := hA (by omega)
   obtain ⟨b', o', rfl, hB', hr'⟩ := hA' (by have := HL.out; omega)
   have hlt' : k < ys.length := by have := HL.out; omega
   obtain ⟨⟨x0, x1⟩, he⟩ : ∃ e, xs[k]? = some e := ⟨_, List.getElem?_eq_getElem hlt⟩
   obtain ⟨⟨y0, y1⟩, he'⟩ : ∃ e, ys[k]? = some e := ⟨_, List.getElem?_eq_getElem hlt'⟩
   have hkx := hokx _ (List.mem_of_getElem? he)
   have hky := hoky _ (List.mem_of_getElem? he')
   obtain ⟨hx0, hx1, hx2, hx3⟩ := hkx
   obtain ⟨hy0, hy1, hy2, hy3⟩ := hky
   dsimp only at hx0 hx1 hx2 hx3 hy0 hy1 hy2 hy3
   have hrw := hr.below hbw hB
   have hrw' := hr'.below hbw hB'
   obtain ⟨c0, c1⟩ := hrw k _ he
   obtain ⟨d0, d1⟩ := hrw' k _ he'
   dsimp only at c0 c1 d0 d1
   have hez : zs[k]? = some (eN ((nI f x0 x1 - nI f y0 y1) % m)) := by
    rw [HZS.out]
    unfold zipO
    rw [List.getElem?_zipWith, he, he']
   have HEZ := Lib.hid hez
   have hzk : ∃ u v : Value, wr.cell? ⟨w.heap.size, k * 2, none⟩ = some u ∧ wr.cell? ⟨w.heap.size, k * 2 + 1, none⟩ = some v := by
    have hlen : k < (zs.take k ++ List.replicate (xs.length - k) ((0, 0) : E)).length := by
     rw [List.length_append, List.length_take, List.length_replicate, HZL.out]
     omega
    obtain ⟨e1, e2⟩ := HB.row k _ (List.getElem?_eq_getElem hlen)
    exact ⟨_, _, e1, e2⟩
   obtain ⟨u, v, z0, z1⟩ := hzk
   have fz0 := HB.frozen (k * 2)
   have fz1 := HB.frozen (k * 2 + 1)
   have HBH := Lib.hid HB
   clear he he' hr hr' hA hA' hez hrw hrw' HB
   go_wp2_with fail
   go_region_with (first
    | (go_at_call 45; refine (field_Sub f m _ _ _ _ _ hf (by omega) (by omega) (by omega) (by omega) (by omega) (by omega) (by omega) (by omega)).mono ?_; rintro e w6 ⟨r0, r1, rfl, ⟨hr0, hr1, hr2, hr3⟩, HR, hb6'⟩; have hb6 := undrew hb6'; clear hb6'; have z60 := cell_call z0 hb6; have z61 := cell_call z1 hb6; have g60 := frozen_call (lt_of_cell z0) fz0 hb6; have g61 := frozen_call (lt_of_cell z1) fz1 hb6))
   all_goals
    go_wp2
    go_roundw
    case rel =>
     have h := (HBH.out.call hb6).set k r0 r1
     rw [fill_step zs _ _ k (r0, r1) HZL.out hlt (HEZ.out.trans (by rw [eN_of HR.out hr0 hr1]))] at h
     exact ⟨k + 1, by omega, by go_num, h, by repeat (first | exact bA | with_reducible assumption | apply bB | (refine bC ?_ (by dsimp only; omega)) | apply bD | apply bE | (refine bF ?_ (by assumption)))⟩
    case measure => simp [intOf]; omega
  ·obtain rfl : k = xs.length := by omega
   go_wp2
   go_ret2
   have h := HB
   rw [List.take_of_length_le (by rw [HZL.out]; exact Nat.le_refl _), Nat.sub_self, List.replicate_zero, List.append_nil] at h
   refine ⟨w.heap.size, ?_, h, Nat.le_refl _, by repeat (first | exact bA | with_reducible assumption | apply bB | (refine bC ?_ (by dsimp only; omega)) | apply bD | apply bE | (refine bF ?_ (by assumption)))⟩
   rw [HZL.out]
   rfl

def RetErr (n : Int) (w : World) (e : Ending) (w' : World) : Prop := e = .returned (.tuple #[.slice none 0 0, .int .i64 n]) ∧ Below w.heap.size w w'

theorem pair_size (va vb vf : Value) (xs ys : List E) (w : World) (hx : SlE w w.heap.size va xs) (hy : SlE w w.heap.size vb ys) (hl : xs.length ≠ ys.length) :
  Calls Try.prog 44 #[va, vb, vf] w (RetErr 9 w) := by
 obtain ⟨⟨A, c, rfl, hc, hcm, hA⟩, hokx⟩ := hx
 obtain ⟨⟨A', c', rfl, hc', hcm', hA'⟩, hoky⟩ := hy
 clear hA hA'
 have hb : ((xs.length : Int) != (ys.length : Int)) = true := by simp; omega
 go_enter Try.func44, Try.ntmps44
 go_wp2
 go_ret2
 exact ⟨rfl, by repeat (first | exact bA | with_reducible assumption | apply bB | (refine bC ?_ (by dsimp only; omega)) | apply bD | apply bE | (refine bF ?_ (by assumption)))⟩

theorem field_SubVec (f m : Int) (hf : FM f m) (va vb : Value) (xs ys : List E) (w : World) (hx : SlE w w.heap.size va xs) (hy : SlE w w.heap.size vb ys) (hl : xs.length = ys.length) (hn : xs.length ≤ 1099511627776) :
  Calls Try.prog 31 #[.int .u8 f, va, vb] w (RetSl w (zipO (· - ·) f m xs ys)) := by
 have hc := pair_Sub f m hf va vb xs ys w hx hy hl hn
 obtain ⟨⟨A, c, rfl, hc, hcm, hA⟩, hokx⟩ := hx
 obtain ⟨⟨A', c', rfl, hc', hcm', hA'⟩, hoky⟩ := hy
 have HC := Lib.hid hc
 clear hc hl
 have hmf : ∀ (fn : Fn) (first cap : Array Value) (w : World), (Instr.makeFunc fn first cap).run Try.prog w = .ok (.func fn first cap) w := fun _ _ _ _ => rfl
 go_enter Try.func31, Try.ntmps31
 go_wp2_with fail
 refine HC.out.mono ?_
 rintro e w1 ⟨g, rfl, hB, hg, hb⟩
 go_wp2
 go_ret2
 exact ⟨g, rfl, hB, hg, hb⟩

theorem field_SubVec_size (f : Int) (va vb : Value) (xs ys : List E) (w : World) (hx : SlE w w.heap.size va xs) (hy : SlE w w.heap.size vb ys) (hl : xs.length ≠ ys.length) :
  Calls Try.prog 31 #[.int .u8 f, va, vb] w (RetErr 9 w) := by
 have hc := fun vf => pair_size va vb vf xs ys w hx hy hl
 obtain ⟨⟨A, c, rfl, hc, hcm, hA⟩, hokx⟩ := hx
 obtain ⟨⟨A', c', rfl, hc', hcm', hA'⟩, hoky⟩ := hy
 have HC := Lib.hid hc
 clear hc hl
 have hmf : ∀ (fn : Fn) (first cap : Array Value) (w : World), (Instr.makeFunc fn first cap).run Try.prog w = .ok (.func fn first cap) w := fun _ _ _ _ => rfl
 go_enter Try.func31, Try.ntmps31
 go_wp2_with fail
 refine (HC.out _).mono ?_
 rintro e w1 ⟨rfl, hb⟩
 go_wp2
 go_ret2
 exact ⟨rfl, hb⟩

end Go.Proofs.Ytpggflcapfkgpaa

namespace Go.Proofs.Ytpggflcapfkgpaa
open Go.RowKit Fm
set_option linter.unusedVariables false
set_option maxRecDepth 100000

theorem cellsE_pair : ∀ (xs : List E) (j : Nat) (u : Value), (cellsE xs)[j]? = some u → ∃ i e, xs[i]? = some e ∧ ((j = i * 2 ∧ u = .int .u64 e.1) ∨ (j = i * 2 + 1 ∧ u = .int .u64 e.2))
 | [], j, u, h => by simp [cellsE] at h
 | x :: l, 0, u, h => by
  simp only [cellsE, List.getElem?_cons_zero, Option.some.injEq] at h
  exact ⟨0, x, rfl, .inl ⟨rfl, h.symm⟩⟩
 | x :: l, 1, u, h => by
  simp only [cellsE, List.getElem?_cons_succ, List.getElem?_cons_zero, Option.some.injEq] at h
  exact ⟨0, x, rfl, .inr ⟨rfl, h.symm⟩⟩
 | x :: l, j + 2, u, h => by
  simp only [cellsE, List.getElem?_cons_succ] at h
  obtain ⟨i, e, hi, hor⟩ := cellsE_pair l j u h
  refine ⟨i + 1, e, by simpa using hi, ?_⟩
  rcases hor with ⟨rfl, hu⟩ | ⟨rfl, hu⟩
  ·exact .inl ⟨by omega, hu⟩
  ·exact .inr ⟨by omega, hu⟩

theorem RowE.cells {w : World} {b o : Nat} {xs : List E} (h : RowE w b o xs) (j : Nat) (u : Value) (hu : (cellsE xs)[j]? = some u) : w.cell? ((⟨b, o, none⟩ : Addr).add j) = some u := by
 have ha : (⟨b, o, none⟩ : Addr).add j = ⟨b, o + j, none⟩ := by
  unfold Addr.add
  split <;> simp_all
 rw [ha]
 obtain ⟨i, e, hi, hor⟩ := cellsE_pair xs j u hu
 rcases hor with ⟨rfl, rfl⟩ | ⟨rfl, rfl⟩
 ·exact (h i e hi).1
 ·rw [← Nat.add_assoc]
  exact (h i e hi).2

theorem oneCell_cellsE (xs : List E) : ∀ u, u ∈ cellsE xs → u.oneCell' = true := by
 induction xs with
 | nil => intro u h; cases h
 | cons e l ih =>
  intro u h
  simp only [cellsE, List.mem_cons] at h
  rcases h with rfl | rfl | h
  ·rfl
  ·rfl
  ·exact ih u h

theorem run_append_E (w : World) (base : Nat) (ty : TypeId) (v : Value) (n : Nat) (xs : List E) (hown : w.ownsRow base 55 2 v n (cellsE xs)) (A : Option Addr) (m c : Nat) (ys : List E)
  (hm : ys.length = m) (hy : 0 < m → ∃ b o, A = some ⟨b, o, none⟩ ∧ RowE w b o ys) (hbound : n + m ≤ 1099511627776) (hbase : base ≤ w.heap.size) :
  ∃ v' w', (Builtin.append_ #[27, 27] ty #[v, .slice A m c]).run Try.prog w = .ok v' w' ∧ w'.ownsRow base 55 2 v' (n + m) (cellsE (xs ++ ys)) ∧ w.grownBy w' v.ownBlock ∧
   (v'.ownBlock = v.ownBlock ∨ v'.ownBlock = some w.heap.size) := by
 obtain ⟨i, hi, hz, h1, h2⟩ := info_parts info_elem
 rw [cellsE_append]
 rcases A with _ | ad
 ·have hm0 : m = 0 := by
   rcases Nat.eq_zero_or_pos m with h0 | h0
   ·exact h0
   ·obtain ⟨b, o, h, _⟩ := hy h0
    cases h
  subst hm0
  obtain rfl : ys = [] := List.eq_nil_of_length_eq_zero hm
  refine ⟨v, w, ?_, by simpa [cellsE] using hown, World.grownBy.refl w _, .inl rfl⟩
  rcases hown.2 with ⟨rfl, rfl⟩ | ⟨g, cap, cur, rfl, _, _, hnc, _⟩
  ·simp [Builtin.append_, run_underlying Try.underlying27, sizeOf, typeInfo, hi, Builtin.lenOf, Builtin.firstCells]
  ·simp [Builtin.append_, run_underlying Try.underlying27, sizeOf, typeInfo, hi, Builtin.lenOf, Builtin.firstCells, hnc, storeCells]
 ·have hcells : ∀ j u, (cellsE ys)[j]? = some u → w.cell? (ad.add j) = some u := by
   intro j u hu
   rcases Nat.eq_zero_or_pos m with h0 | h0
   ·subst h0
    obtain rfl : ys = [] := List.eq_nil_of_length_eq_zero hm
    simp [cellsE] at hu
   ·obtain ⟨b, o, h, hr⟩ := hy h0
    injection h with h
    subst h
    exact hr.cells j u hu
  obtain ⟨v', w', hrun, h3, h4, _, h5⟩ := run_append_own_at (P := Try.prog) w base 27 ty 55 i _ 2 16 Try.underlying27 hi hz h1 h2 rfl (by omega) v n _ hown ad m c (cellsE ys)
   (by rw [length_cellsE, hm]) hcells (oneCell_cellsE ys) (by unfold maxLen; omega) (by omega) hbase
  exact ⟨v', w', hrun, h3, h4, h5⟩

theorem wpList_append_E {w : World} {ops : Array Oper} {rest : List Oper} {o : Oper} {a : Act} {Q : Exit → Act → World → Prop} (hgd : o.guard = none) (s x : Operand)
  (ho : o.op = .call { callee := .builtin .append, args := #[s, x], argTypes := #[27, 27] })
  (base : Nat) (v : Value) (n : Nat) (xs : List E) (hs : a.eval s = v) (hown : w.ownsRow base 55 2 v n (cellsE xs)) (A : Option Addr) (m c : Nat) (ys : List E) (hx : a.eval x = .slice A m c)
  (hm : ys.length = m) (hy : 0 < m → ∃ b o, A = some ⟨b, o, none⟩ ∧ RowE w b o ys) (hbound : n + m ≤ 1099511627776) (hbase : base ≤ w.heap.size)
  (h : ∀ v' w', w'.ownsRow base 55 2 v' (n + m) (cellsE (xs ++ ys)) → w.grownBy w' v.ownBlock → (v'.ownBlock = v.ownBlock ∨ v'.ownBlock = some w.heap.size) → wpList Try.prog ops Q rest (a.put o.dst v') w') : wpList Try.prog ops Q (o :: rest) a w := by
 obtain ⟨v', w', hrun, h2, h3, h4⟩ := run_append_E w base o.type v n xs hown A m c ys hm hy hbound hbase
 refine wpList_plain hgd fun K hK => ?_
 unfold Oper.wp execOp
 simp only [ho, resolve, invoke, builtin, Sem.run_bind, Sem.run_pure, Result.andThen_ok, List.map_toArray, List.map_cons, List.map_nil, hs, hx, hrun]
 exact hK _ _ (h v' w' h2 h3 h4)

theorem SlE.of_own {w : World} {base : Nat} {v : Value} {xs : List E} (h : w.ownsRow base 55 2 v xs.length (cellsE xs)) (ok : ∀ e, e ∈ xs → okE e) : SlE w w.heap.size v xs := by
 rcases h.2 with ⟨rfl, h0⟩ | ⟨g, cap, cur, rfl, hb, hg, hnc, hcm, hcs, htk⟩
 ·refine ⟨⟨none, 0, by rw [h0], by omega, by omega, fun hn => by omega⟩, ok⟩
 ·refine ⟨⟨some ⟨g, 0, none⟩, cap, rfl, hnc, by unfold maxLen at hcm; omega, fun _ => ⟨g, 0, rfl, (Array.getElem?_eq_some_iff.1 hg).1, fun i e hi => ?_⟩⟩, ok⟩
  obtain ⟨e1, e2⟩ := cellsE_at xs i e hi
  have hc := fun j u hu => h.cells (g := g) rfl j u hu
  have ha : ∀ j, (⟨g, 0, none⟩ : Addr).add j = ⟨g, 0 + j, none⟩ := by
   intro j
   unfold Addr.add
   split <;> simp_all
  have f1 := hc _ _ e1
  have f2 := hc _ _ e2
  rw [ha] at f1 f2
  exact ⟨f1, by rw [Nat.add_assoc]; exact f2⟩

end Go.Proofs.Ytpggflcapfkgpaa

namespace Go.Proofs.Ytpggflcapfkgpaa
open Go.RowKit Fm
set_option linter.unusedVariables false
set_option maxRecDepth 100000

def AllIn (m : Int) (xs : List E) : Prop := ∀ e, e ∈ xs → e.1 + 18446744073709551616 * e.2 < m

theorem load_shares {w : World} {b : Nat} {u v : Value} (h : V2 w b u v) : (loadVar 46 ⟨b, 0, none⟩).run Try.prog w = .ok (.agg #[u, v]) w := by
 simp [loadVar, go_sem, h.c0, h.c1]

theorem results_shares {fn : Func} {p e : Tmp} {tmps : Array Value} {w : World} {b : Nat} {u v : Value} (hv : V2 w b u v) (h : fn.results = #[.cell p 46, .tmp e]) (hp : tmps.getD p undef = .pointer (some ⟨b, 0, none⟩)) :
  (results fn tmps).run Try.prog w = .ok (.tuple #[.agg #[u, v], tmps.getD e undef]) w := by
 have hl := load_shares hv
 rw [results_cell_tmp h, hp]
 simp only [asAddr, Sem.run_pure, Result.andThen, hl]

def RetShares (w : World) (zs ys : List E) (e : Ending) (w' : World) : Prop :=
 ∃ u v : Value, e = .returned (.tuple #[.agg #[u, v], .int .i64 0]) ∧ SlE w' w'.heap.size u zs ∧ SlE w' w'.heap.size v ys ∧ Below w.heap.size w w'

set_option maxHeartbeats 4000000 in
theorem tape_Split (f m : Int) (hf : FM f m) (va vb : Value) (xs ys : List E) (w : World) (hx : SlE w w.heap.size va xs) (hy : SlE w w.heap.size vb ys) (hl : xs.length = ys.length) (hn : xs.length ≤ 1099511627776)
  (ix : AllIn m xs) (iy : AllIn m ys) :
  Calls Try.prog 29 #[.int .u8 f, va, vb] w (RetShares w (zipO (· - ·) f m xs ys) ys) := by
 have hx0 := hx
 have hy0 := hy
 obtain ⟨⟨A, c, rfl, hc, hcm, hA⟩, hokx⟩ := hx
 obtain ⟨⟨A', c', rfl, hc', hcm', hA'⟩, hoky⟩ := hy
 have hbf : (f == 1 || f == 2) = true := by rcases hf.or with ⟨rfl, _⟩ | ⟨rfl, _⟩ <;> rfl
 have HL := Lib.hid hl
 clear hl
 go_enter Try.func29, Try.ntmps29
 go_wp2_with (go_at_call 32; refine (field_Valid f _).mono ?_; rintro e w1 ⟨rfl, rfl⟩)
 go_loopw [22] (fun i wr => ∃ k : Nat, k ≤ 2 ∧ i = .int .i64 k ∧ V2 wr w.heap.size (.slice none 0 0) (.slice none 0 0) ∧ V2 wr (w.heap.size + 1) (.slice A xs.length c) (.slice A' ys.length c') ∧ Below w.heap.size w wr) (fun i _ => 2 - (intOf i).toNat)
 case atStart =>
  have s0 := V2.new (w.alloc (.cells #[.slice none 0 0, .slice none 0 0] 46)) (.slice A xs.length c) (.slice A' ys.length c') 27
  simp only [World.size_alloc] at s0
  exact ⟨0, by omega, rfl, (V2.new w _ _ _).alloc _, s0, by repeat (first | exact bA | with_reducible assumption | apply bB | (refine bC ?_ (by dsimp only; omega)) | apply bD | apply bE | (refine bF ?_ (by assumption)))⟩
 case round =>
  obtain ⟨k, hk, rfl, hv, hs, hbw⟩ := hrel
  by_cases hlt : k < 2
  ·have hL : ∃ (L : List E) (D : Option Addr) (cc : Nat), wr.cell? ⟨w.heap.size + 1, k, none⟩ = some (.slice D L.length cc) ∧ L.length ≤ cc ∧ cc ≤ 9223372036854775807 ∧ (0 < L.length → ∃ b o, D = some ⟨b, o, none⟩ ∧ b < w.heap.size ∧ RowE w b o L) ∧ AllIn m L ∧ (∀ e, e ∈ L → okE e) := by
    have h2 : k = 0 ∨ k = 1 := by omega
    rcases h2 with rfl | rfl
    ·exact ⟨xs, A, c, hs.c0, hc, hcm, hA, ix, hokx⟩
    ·exact ⟨ys, A', c', hs.c1, hc', hcm', hA', iy, hoky⟩
   obtain ⟨L, D, cc, hcell, hLc, hLm, hLA, hLI, hLok⟩ := hL
   have hd2 : decide ((k : Int) < 2) = true := by simp; omega
   go_wp2
   obtain ⟨wo, hwo⟩ : ∃ wo : World, wo = wr := ⟨_, rfl⟩
   subst hwo
   go_loopw [28] (fun j wi => ∃ q : Nat, q ≤ L.length ∧ j = .int .i64 q ∧ V2 wi w.heap.size (.slice none 0 0) (.slice none 0 0) ∧ V2 wi (w.heap.size + 1) (.slice A xs.length c) (.slice A' ys.length c') ∧ Below w.heap.size w wi) (fun j _ => L.length - (intOf j).toNat)
   case atStart => exact ⟨0, Nat.zero_le _, rfl, hv, hs, hbw⟩
   case round =>
    obtain ⟨q, hq, rfl, hv', hs', hbw'⟩ := hrel
    by_cases hlq : q < L.length
    ·obtain ⟨b, o, rfl, hB, hr⟩ := hLA (by omega)
     obtain ⟨⟨x0, x1⟩, he⟩ : ∃ e, L[q]? = some e := ⟨_, List.getElem?_eq_getElem hlq⟩
     obtain ⟨hx0, hx1, hx2, hx3⟩ := hLok _ (List.mem_of_getElem? he)
     have hin := hLI _ (List.mem_of_getElem? he)
     obtain ⟨c0, c1⟩ := (hr.below hbw' hB) q _ he
     dsimp only at hx0 hx1 hx2 hx3 hin c0 c1
     have hd : decide (x0 + 18446744073709551616 * x1 < m) = true := by simp; omega
     clear hin hLA hr he
     go_wp2_with (go_at_call 30; refine (field_In f m _ _ _ hf (by omega) (by omega) (by omega) (by omega)).mono ?_; rintro e w6 ⟨rfl, hb6⟩)
     have hv6 := (hv'.alloc (.cells #[.int .u64 x0, .int .u64 x1] 55)).call hb6
     have hs6 := (hs'.alloc (.cells #[.int .u64 x0, .int .u64 x1] 55)).call hb6
     have hbw6 : Below w.heap.size w w6 := by repeat (first | exact bA | with_reducible assumption | apply bB | (refine bC ?_ (by dsimp only; omega)) | apply bD | apply bE | (refine bF ?_ (by assumption)))
     go_roundw
     case rel => exact ⟨q + 1, by omega, by go_num, hv6, hs6, hbw6⟩
     case measure => simp [intOf]; omega
    ·obtain rfl : q = L.length := by omega
     go_wp2
     go_roundw
     case rel => exact ⟨k + 1, by omega, by go_num, hv', hs', hbw'⟩
     case measure => simp [intOf]; omega
  ·obtain rfl : k = 2 := by omega
   have hxr := (hx0.below hbw).mono hbw.size
   have hyr := (hy0.below hbw).mono hbw.size
   go_wp2_with fail
   refine (field_SubVec f m hf _ _ xs ys _ hxr hyr HL.out hn).mono ?_
   rintro e w1 ⟨g, rfl, hB, hg, hb1⟩
   have hv1 := hv.call hb1
   have hb1a : Below w1.heap.size w1 (w1.alloc (.cells #[] 55)) := (Below.refl _ _).alloc (Nat.le_refl _) _
   have HYR : 0 < ys.length → ∃ b o, A' = some ⟨b, o, none⟩ ∧ RowE (w1.alloc (.cells #[] 55)) b o ys := by
    intro h
    obtain ⟨b, o, h1, h2, h3⟩ := hA' h
    exact ⟨b, o, h1, ((h3.below hbw h2).call hb1).call hb1a⟩
   have hown0 : (w1.alloc (.cells #[] 55)).ownsRow w1.heap.size 55 2 (.slice (some ⟨w1.heap.size, 0, none⟩) 0 0) 0 (cellsE []) := World.ownsRow_made w1 #[] 0 (Nat.le_refl _) (by unfold maxLen; omega) rfl
   have hny : ys.length ≤ 1099511627776 := by have := HL.out; omega
   have hzl : w.heap.size < w1.heap.size := hv1.lt
   have hv1' := hv1
   obtain ⟨v10, v11, v12, v13, v14⟩ := hv1'
   have hBH := Lib.hid hB
   clear hB
   go_upto_region 16 with fail
   go_wp2_with (at_builtin; (refine wpList_append_E rfl (.tmp 51) (.tmp 52) rfl w1.heap.size _ 0 [] rfl hown0 A' ys.length c' ys rfl rfl HYR (by omega) (by simp) ?_; intro v2 w2 hown2 hg2 hat2; have hb2 : Below w1.heap.size w1 w2 := hb1a.grown hg2 (by simp) (fun k hk => Nat.le_of_eq (Option.some.inj hk)); obtain ⟨v20, v21, v22, v23, v24⟩ := hv1.call hb2; obtain ⟨⟨A2, c2, hveq, _⟩, _⟩ := SlE.of_own (by simpa using hown2) hoky; rw [hveq]))
   refine bodyPost_ret (results_shares (b := w.heap.size) (u := .slice (some ⟨g, 0, none⟩) (zipO (· - ·) f m xs ys).length (zipO (· - ·) f m xs ys).length) (v := .slice A2 ys.length c2) ?_ rfl rfl) rfl ?_
   ·exact V2.set ⟨v20, v21, v22, v23, v24⟩ _ _
   ·have hzlen : (zipO (· - ·) f m xs ys).length ≤ 9223372036854775807 := by
     unfold zipO
     rw [List.length_zipWith]
     omega
    have hne : g ≠ w.heap.size := by have := hbw.size; have := hv.lt; omega
    refine ⟨_, _, rfl, BlkE.sl (((hBH.out.call hb2).far hne _).far hne _) hzlen (okE_zipO hf xs ys) ?_, ?_, ?_⟩
    ·have := (hBH.out.call hb2).lt
     simpa [World.setCell] using this
    ·rw [← hveq]
     exact SlE.of_own (ownsRow_setCell_below (ownsRow_setCell_below (by simpa using hown2) hzl _) hzl _) hoky
    ·exact by repeat (first | exact bA | with_reducible assumption | apply bB | (refine bC ?_ (by dsimp only; omega)) | apply bD | apply bE | (refine bF ?_ (by assumption)))

set_option maxHeartbeats 4000000 in
theorem tape_Retape (f m : Int) (hf : FM f m) (va vo vb : Value) (xs os ys : List E) (w : World) (hx : SlE w w.heap.size va xs) (ho : SlE w w.heap.size vo os) (hy : SlE w w.heap.size vb ys) (hl : xs.length = ys.length) (hlo : os.length = ys.length) (hn : xs.length ≤ 1099511627776)
  (ix : AllIn m xs) (io : AllIn m os) (iy : AllIn m ys) :
  Calls Try.prog 13 #[.int .u8 f, va, vo, vb] w (RetSl w (zipO (· - ·) f m os (zipO (· - ·) f m xs ys))) := by
 have hS := tape_Split f m hf va vb xs ys w hx hy hl hn ix iy
 have HS := Lib.hid hS
 have ho0 := ho
 obtain ⟨⟨A, c, rfl, hc, hcm, hA⟩, hokx⟩ := hx
 obtain ⟨⟨A', c', rfl, hc', hcm', hA'⟩, hoky⟩ := hy
 obtain ⟨⟨D, cc, rfl, hLc, hLm, hLA⟩, hLok⟩ := ho
 have hzl : os.length = (zipO (· - ·) f m xs ys).length := by unfold zipO; rw [List.length_zipWith]; omega
 have HZL := Lib.hid hzl
 have hno : os.length ≤ 1099511627776 := by omega
 have HNO := Lib.hid hno
 clear hno
 clear hl hlo hzl hA hA' hS
 go_enter Try.func13, Try.ntmps13
 go_wp2_with fail
 refine HS.out.mono ?_
 rintro e w1 ⟨u, v, rfl, hu, hv, hb1⟩
 have hu0 := hu
 obtain ⟨⟨U, uc, rfl, huc, hum, hUA⟩, huok⟩ := hu
 obtain ⟨⟨V, vc, rfl, hvc, hvm, hVA⟩, hvok⟩ := hv
 go_wp2
 go_loopw [26] (fun j wi => ∃ q : Nat, q ≤ os.length ∧ j = .int .i64 q ∧ V2 wi w1.heap.size (.slice U (zipO (· - ·) f m xs ys).length uc) (.slice V ys.length vc) ∧ Below w1.heap.size w1 wi) (fun j _ => os.length - (intOf j).toNat)
 case atStart => exact ⟨0, Nat.zero_le _, rfl, V2.new w1 _ _ _, by repeat (first | exact bA | with_reducible assumption | apply bB | (refine bC ?_ (by dsimp only; omega)) | apply bD | apply bE | (refine bF ?_ (by assumption)))⟩
 case round =>
  obtain ⟨q, hq, rfl, hs', hbw'⟩ := hrel
  have hbw : Below w.heap.size w wr := by repeat (first | exact bA | with_reducible assumption | apply bB | (refine bC ?_ (by dsimp only; omega)) | apply bD | apply bE | (refine bF ?_ (by assumption)))
  by_cases hlq : q < os.length
  ·obtain ⟨b, o, rfl, hB, hr⟩ := hLA (by omega)
   obtain ⟨⟨x0, x1⟩, he⟩ : ∃ e, os[q]? = some e := ⟨_, List.getElem?_eq_getElem hlq⟩
   obtain ⟨hx0, hx1, hx2, hx3⟩ := hLok _ (List.mem_of_getElem? he)
   have hin := io _ (List.mem_of_getElem? he)
   obtain ⟨c0, c1⟩ := (hr.below hbw hB) q _ he
   dsimp only at hx0 hx1 hx2 hx3 hin c0 c1
   have hd : decide (x0 + 18446744073709551616 * x1 < m) = true := by simp; omega
   clear hin hLA hr he
   go_wp2_with (go_at_call 30; refine (field_In f m _ _ _ hf (by omega) (by omega) (by omega) (by omega)).mono ?_; rintro e w6 ⟨rfl, hb6⟩)
   have hs6 := (hs'.alloc (.cells #[.int .u64 x0, .int .u64 x1] 55)).call hb6
   have hbw6 : Below w1.heap.size w1 w6 := by repeat (first | exact bA | with_reducible assumption | apply bB | (refine bC ?_ (by dsimp only; omega)) | apply bD | apply bE | (refine bF ?_ (by assumption)))
   go_roundw
   case rel => exact ⟨q + 1, by omega, by go_num, hs6, hbw6⟩
   case measure => simp [intOf]; omega
  ·obtain rfl : q = os.length := by omega
   have hor := (ho0.below hbw).mono hbw.size
   have hur := (hu0.below hbw').mono hbw'.size
   obtain ⟨v10, v11, v12, v13, v14⟩ := hs'
   go_wp2_with fail
   refine (field_SubVec f m hf _ _ os _ _ hor hur HZL.out HNO.out).mono ?_
   rintro e w2 ⟨g, rfl, hB, hg, hb2⟩
   go_wp2
   go_ret2
   exact ⟨g, rfl, hB, Nat.le_trans hbw.size hg, by repeat (first | exact bA | with_reducible assumption | apply bB | (refine bC ?_ (by dsimp only; omega)) | apply bD | apply bE | (refine bF ?_ (by assumption)))⟩

end Go.Proofs.Ytpggflcapfkgpaa

namespace Go.Proofs.Ytpggflcapfkgpaa
open Go.RowKit Fm
set_option linter.unusedVariables false
set_option maxRecDepth 100000

theorem FM.ref {f m : Int} (h : FM f m) : ∃ p0 p1, RefM f m p0 p1 := by
 rcases h.or with ⟨rfl, rfl⟩ | ⟨rfl, rfl⟩
 ·exact ⟨_, _, ⟨.inl ⟨rfl, rfl, rfl, rfl⟩⟩⟩
 ·exact ⟨_, _, ⟨.inr ⟨by omega, rfl, rfl, rfl⟩⟩⟩

def RedE (m : Int) (e : E) : Prop := ∃ n : Int, 0 ≤ n ∧ n < m ∧ e = eN n
theorem redE_mod {m n : Int} (hm : 0 < m) : RedE m (eN (n % m)) := ⟨n % m, Int.emod_nonneg _ (by omega), Int.emod_lt_of_pos _ hm, rfl⟩
theorem RedE.lt {m : Int} {e : E} (h : RedE m e) : e.1 + 18446744073709551616 * e.2 < m := by
 obtain ⟨n, h0, h1, rfl⟩ := h
 unfold eN
 dsimp only
 omega
theorem RedE.ok {f m : Int} {e : E} (hf : FM f m) (h : RedE m e) : okE e := by
 obtain ⟨n, h0, h1, rfl⟩ := h
 have := hf.pos
 exact okE_eN _ h0 (by omega)

def someAt (f m : Int) (l : List E) (j : Nat) : E := if l.length = 0 then (0, 0) else eN (nI f (l.getD (j % l.length) (0, 0)).1 (l.getD (j % l.length) (0, 0)).2 % m)
def someE (f m : Int) (l : List E) (many step : Nat) : List E := (List.range many).map fun i => someAt f m l (i * step + step)

theorem someAt_red {f m : Int} (hf : FM f m) (l : List E) (j : Nat) : RedE m (someAt f m l j) := by
 unfold someAt
 have hp := hf.pos
 split
 ·exact ⟨0, by omega, by omega, rfl⟩
 ·exact redE_mod hp.1
theorem someE_red {f m : Int} (hf : FM f m) (l : List E) (many step : Nat) : ∀ e, e ∈ someE f m l many step → RedE m e := by
 intro e he
 unfold someE at he
 rw [List.mem_map] at he
 obtain ⟨i, _, rfl⟩ := he
 exact someAt_red hf l _
theorem someE_length (f m : Int) (l : List E) (many step : Nat) : (someE f m l many step).length = many := by
 unfold someE
 rw [List.length_map, List.length_range]
theorem someE_at (f m : Int) (l : List E) (many step k : Nat) (hk : k < many) : (someE f m l many step)[k]? = some (someAt f m l (k * step + step)) := by
 unfold someE
 rw [List.getElem?_map, List.getElem?_range hk]
 rfl

def RetB (w : World) (zs : List E) (e : Ending) (w' : World) : Prop :=
 ∃ g, e = .returned (.slice (some ⟨g, 0, none⟩) zs.length zs.length) ∧ BlkE w' g zs ∧ w.heap.size ≤ g ∧ Below w.heap.size w w'

set_option maxHeartbeats 4000000 in
theorem law31_some (f m p0 p1 : Int) (hf : FM f m) (hm : RefM f m p0 p1) (vl : Value) (l : List E) (many step : Nat) (w : World) (hl : SlE w w.heap.size vl l) (hmany : many ≤ 65536) (hstep : step ≤ 16) :
  Calls Try.prog 9 #[.int .i64 f, vl, .int .i64 many, .int .i64 step] w (RetB w (someE f m l many step)) := by
 obtain ⟨⟨A, c, rfl, hc, hcm, hA⟩, hokl⟩ := hl
 obtain ⟨zs, hzs⟩ : ∃ zs, zs = someE f m l many step := ⟨_, rfl⟩
 have hzl : zs.length = many := by rw [hzs]; exact someE_length ..
 rw [← hzs]
 have HZS := Lib.hid hzs
 have HZL := Lib.hid hzl
 clear hzs hzl
 have hmk := make_elem many (by omega)
 by_cases hl0 : l.length = 0
 ·have hd : decide ((0 : Int) < (l.length : Int)) = false := decide_eq_false (by omega)
  have hd2 : ¬ ((0 : Int) < (l.length : Int)) := by omega
  clear hA
  go_enter Try.func9, Try.ntmps9
  go_wp2
  go_loopw [15] (fun i wr => ∃ k : Nat, k ≤ many ∧ i = .int .i64 k ∧ BlkE wr w.heap.size (zs.take k ++ List.replicate (many - k) (0, 0)) ∧ Below w.heap.size w wr) (fun i _ => many - (intOf i).toNat)
  case atStart => exact ⟨0, Nat.zero_le _, rfl, heap_alloc_new w _, by repeat (first | exact bA | with_reducible assumption | apply bB | (refine bC ?_ (by dsimp only; omega)) | apply bD | apply bE | (refine bF ?_ (by assumption)))⟩
  case round =>
   obtain ⟨k, hk, rfl, HB, hbw⟩ := hrel
   by_cases hlt : k < many
   ·have hez : zs[k]? = some (0, 0) := by
     rw [HZS.out, someE_at f m l many step k hlt]
     unfold someAt
     rw [if_pos hl0]
    have hst : zs.take k ++ List.replicate (many - k) ((0, 0) : E) = zs.take (k + 1) ++ List.replicate (many - (k + 1)) (0, 0) := by
     rw [List.take_add_one, hez, show many - k = (many - (k + 1)) + 1 from by omega, List.replicate_succ]
     simp
    rw [hst] at HB
    have HBH := Lib.hid HB
    clear hez hst HB
    go_wp2
    go_roundw
    case rel => exact ⟨k + 1, by omega, by go_num, HBH.out, by repeat (first | exact bA | with_reducible assumption | apply bB | (refine bC ?_ (by dsimp only; omega)) | apply bD | apply bE | (refine bF ?_ (by assumption)))⟩
    case measure => simp [intOf]; omega
   ·obtain rfl : k = many := by omega
    go_wp2
    go_ret
    have h := HB
    rw [List.take_of_length_le (by rw [HZL.out]; exact Nat.le_refl _), Nat.sub_self, List.replicate_zero, List.append_nil] at h
    refine ⟨w.heap.size, ?_, h, Nat.le_refl _, by repeat (first | exact bA | with_reducible assumption | apply bB | (refine bC ?_ (by dsimp only; omega)) | apply bD | apply bE | (refine bF ?_ (by assumption)))⟩
    rw [HZL.out]
    rfl
 ·have hd : decide ((0 : Int) < (l.length : Int)) = true := decide_eq_true (by omega)
  go_enter Try.func9, Try.ntmps9
  go_wp2
  go_loopw [15] (fun i wr => ∃ k : Nat, k ≤ many ∧ i = .int .i64 k ∧ BlkE wr w.heap.size (zs.take k ++ List.replicate (many - k) (0, 0)) ∧ Below w.heap.size w wr) (fun i _ => many - (intOf i).toNat)
  case atStart => exact ⟨0, Nat.zero_le _, rfl, heap_alloc_new w _, by repeat (first | exact bA | with_reducible assumption | apply bB | (refine bC ?_ (by dsimp only; omega)) | apply bD | apply bE | (refine bF ?_ (by assumption)))⟩
  case round =>
   obtain ⟨k, hk, rfl, HB, hbw⟩ := hrel
   by_cases hlt : k < many
   ·obtain ⟨b, o, rfl, hB, hr⟩ := hA (by omega)
    have hj : (k * step + step) % l.length < l.length := Nat.mod_lt _ (by omega)
    obtain ⟨⟨x0, x1⟩, he⟩ : ∃ e, l[(k * step + step) % l.length]? = some e := ⟨_, List.getElem?_eq_getElem hj⟩
    obtain ⟨hx0, hx1, hx2, hx3⟩ := hokl _ (List.mem_of_getElem? he)
    obtain ⟨c0, c1⟩ := (hr.below hbw hB) _ _ he
    dsimp only at hx0 hx1 hx2 hx3 c0 c1
    have hez : zs[k]? = some (eN (nI f x0 x1 % m)) := by
     rw [HZS.out, someE_at f m l many step k hlt]
     unfold someAt
     rw [if_neg hl0, List.getD_eq_getElem?_getD, he]
     rfl
    have HEZ := Lib.hid hez
    have hzk : ∃ u v : Value, wr.cell? ⟨w.heap.size, k * 2, none⟩ = some u ∧ wr.cell? ⟨w.heap.size, k * 2 + 1, none⟩ = some v := by
     have hlen : k < (zs.take k ++ List.replicate (many - k) ((0, 0) : E)).length := by
      rw [List.length_append, List.length_take, List.length_replicate, HZL.out]
      omega
     obtain ⟨e1, e2⟩ := HB.row k _ (List.getElem?_eq_getElem hlen)
     exact ⟨_, _, e1, e2⟩
    obtain ⟨u, v, z0, z1⟩ := hzk
    have fz0 := HB.frozen (k * 2)
    have fz1 := HB.frozen (k * 2 + 1)
    have HBH := Lib.hid HB
    have hks : (k : Int) * (step : Int) ≤ 1048576 := by
     have h1 : k * step ≤ 65536 * 16 := Nat.mul_le_mul (by omega) hstep
     rw [← Int.natCast_mul]
     omega
    have hks0 : 0 ≤ (k : Int) * (step : Int) := by
     rw [← Int.natCast_mul]
     omega
    have hjn : 0 ≤ ((k : Int) * (step : Int) + (step : Int)) % (l.length : Int) := Int.emod_nonneg _ (by omega)
    have hjl : ((k : Int) * (step : Int) + (step : Int)) % (l.length : Int) < (l.length : Int) := Int.emod_lt_of_pos _ (by omega)
    have hjt : (((k : Int) * (step : Int) + (step : Int)) % (l.length : Int)).toNat = (k * step + step) % l.length := by
     rw [← Int.natCast_mul, ← Int.natCast_add, ← Int.natCast_emod, Int.toNat_natCast]
    clear he hr hA hez HB
    go_wp2_with (go_at_call 26; refine (ref_Of f m p0 p1 _ _ _ hm (by omega) (by omega) (by omega) (by omega)).mono ?_; rintro e w6 ⟨r0, r1, rfl, ⟨hr0, hr1, hr2, hr3⟩, HR, hb6⟩; have z60 := cell_call z0 hb6; have z61 := cell_call z1 hb6; have g60 := frozen_call (lt_of_cell z0) fz0 hb6; have g61 := frozen_call (lt_of_cell z1) fz1 hb6)
    go_roundw
    case rel =>
     have h := (HBH.out.call hb6).set k r0 r1
     rw [fill_step zs _ _ k (r0, r1) HZL.out hlt (HEZ.out.trans (by rw [eN_of HR.out hr0 hr1]))] at h
     exact ⟨k + 1, by omega, by go_num, h, by repeat (first | exact bA | with_reducible assumption | apply bB | (refine bC ?_ (by dsimp only; omega)) | apply bD | apply bE | (refine bF ?_ (by assumption)))⟩
    case measure => simp [intOf]; omega
   ·obtain rfl : k = many := by omega
    go_wp2
    go_ret
    have h := HB
    rw [List.take_of_length_le (by rw [HZL.out]; exact Nat.le_refl _), Nat.sub_self, List.replicate_zero, List.append_nil] at h
    refine ⟨w.heap.size, ?_, h, Nat.le_refl _, by repeat (first | exact bA | with_reducible assumption | apply bB | (refine bC ?_ (by dsimp only; omega)) | apply bD | apply bE | (refine bF ?_ (by assumption)))⟩
    rw [HZL.out]
    rfl

end Go.Proofs.Ytpggflcapfkgpaa

namespace Go.Proofs.Ytpggflcapfkgpaa
open Go.RowKit Fm
set_option linter.unusedVariables false
set_option maxRecDepth 100000

structure IsF (f : Nat) : Prop where
 or : f = 1 ∨ f = 2

def lo {f : Nat} (x : Fin (Pm f)) : Int := (eK x).1
def hi {f : Nat} (x : Fin (Pm f)) : Int := (eK x).2

abbrev vK {f : Nat} (x : Fin (Pm f)) : Value := .agg #[.int .u64 (lo x), .int .u64 (hi x)]

theorem lo_hi {f : Nat} (x : Fin (Pm f)) : (lo x, hi x) = eK x := rfl
theorem lo_0 {f : Nat} (x : Fin (Pm f)) : 0 ≤ lo x := (okE_eK x).1
theorem lo_1 {f : Nat} (x : Fin (Pm f)) : lo x ≤ 18446744073709551615 := (okE_eK x).2.1
theorem hi_0 {f : Nat} (x : Fin (Pm f)) : 0 ≤ hi x := (okE_eK x).2.2.1
theorem hi_1 {f : Nat} (x : Fin (Pm f)) : hi x ≤ 18446744073709551615 := (okE_eK x).2.2.2
theorem lo_zero {f : Nat} : lo (0 : Fin (Pm f)) = 0 := by unfold lo; rw [eK_zero]
theorem hi_zero {f : Nat} : hi (0 : Fin (Pm f)) = 0 := by unfold hi; rw [eK_zero]
theorem FM.ofN {f : Nat} (hf : IsF f) : FM (f : Int) (Pm f : Int) := by
 rcases hf.or with rfl | rfl
 ·exact ⟨.inl ⟨rfl, by rw [Pm_one]; rfl⟩⟩
 ·exact ⟨.inr ⟨rfl, by rw [Pm_two]; rfl⟩⟩

theorem nI_nE {f : Nat} (a0 a1 : Int) : nI (f : Int) a0 a1 = nE f (a0, a1) := by
 unfold nI nE
 by_cases h : f = 1
 ·subst h; rfl
 ·rw [if_neg (by omega), if_neg h]

abbrev kL (f : Nat) (a0 a1 : Int) : Fin (Pm f) := kE f (a0, a1)
theorem kL_lohi {f : Nat} (x : Fin (Pm f)) : kL f (lo x) (hi x) = x := by
 show kE f (lo x, hi x) = x
 rw [lo_hi, kE_eK]
theorem kL_zero {f : Nat} : kL f 0 0 = 0 := kE_zero
theorem kL_one {f : Nat} : kL f 1 0 = 1 := kE_one

theorem val_kI {f : Nat} (n : Int) : (((kI (Pm f) n).val : Nat) : Int) = n % (Pm f : Int) := kI_val n
theorem kI_nI {f : Nat} (a0 a1 : Int) : kI (Pm f) (nI (f : Int) a0 a1) = kL f a0 a1 := by
 unfold kL kE
 rw [nI_nE]

theorem eK_kI {f : Nat} (n : Int) : eK (kI (Pm f) n) = eN (n % (Pm f : Int)) := by
 unfold eK
 rw [val_kI]

def RetK {f : Nat} (x : Fin (Pm f)) (w : World) (e : Ending) (w' : World) : Prop := e = .returned (vK x) ∧ Below w.heap.size w w'

theorem RetE.toK {f : Nat} {n : Int} {w : World} {e : Ending} {w' : World} (h : RetE (n % (Pm f : Int)) w e w') {x : Fin (Pm f)} (hx : kI (Pm f) n = x) : RetK x w e w' := by
 obtain ⟨x0, x1, rfl, ⟨h0, h1, h2, h3⟩, HX, hb⟩ := h
 refine ⟨?_, hb⟩
 have he := eN_of HX.out h0 h1
 rw [← eK_kI, hx] at he
 have e0 : x0 = lo x := congrArg Prod.fst he
 have e1 : x1 = hi x := congrArg Prod.snd he
 rw [e0, e1]

section
variable {f : Nat} (hf : IsF f)
include hf

theorem field_SubL (a0 a1 b0 b1 : Int) (w : World) (h0 : 0 ≤ a0) (h1 : a0 ≤ 18446744073709551615) (k0 : 0 ≤ a1) (k1 : a1 ≤ 18446744073709551615)
  (g0 : 0 ≤ b0) (g1 : b0 ≤ 18446744073709551615) (j0 : 0 ≤ b1) (j1 : b1 ≤ 18446744073709551615) :
  Calls Try.prog 45 #[.int .u8 f, .agg #[.int .u64 a0, .int .u64 a1], .agg #[.int .u64 b0, .int .u64 b1]] w (RetK (kL f a0 a1 - kL f b0 b1) w) :=
 (field_Sub f _ a0 a1 b0 b1 w (FM.ofN hf) h0 h1 k0 k1 g0 g1 j0 j1).mono fun _ _ h => h.toK (by rw [kI_sub, kI_nI, kI_nI])

end

/-! ### lists of elements -/
abbrev KL (f : Nat) := List (Fin (Pm f))
def esK {f : Nat} (l : KL f) : List E := l.map eK
theorem esK_length {f : Nat} (l : KL f) : (esK l).length = l.length := by unfold esK; rw [List.length_map]
theorem esK_ok {f : Nat} (l : KL f) : ∀ e, e ∈ esK l → okE e := by
 intro e he
 unfold esK at he
 rw [List.mem_map] at he
 obtain ⟨x, _, rfl⟩ := he
 exact okE_eK x
theorem esK_at {f : Nat} {l : KL f} {i : Nat} {x : Fin (Pm f)} (h : l[i]? = some x) : (esK l)[i]? = some (eK x) := by unfold esK; rw [List.getElem?_map, h]; rfl
theorem esK_append {f : Nat} (l m : KL f) : esK (l ++ m) = esK l ++ esK m := by unfold esK; rw [List.map_append]
theorem esK_cons {f : Nat} (x : Fin (Pm f)) (l : KL f) : esK (x :: l) = eK x :: esK l := rfl

def SlK {f : Nat} (w : World) (B : Nat) (v : Value) (l : KL f) : Prop :=
 ∃ (A : Option Addr) (c : Nat), v = .slice A l.length c ∧ l.length ≤ c ∧ c ≤ 9223372036854775807 ∧ (0 < l.length → ∃ b o, A = some ⟨b, o, none⟩ ∧ b < B ∧ RowE w b o (esK l))
theorem SlK.toE {f : Nat} {w : World} {B : Nat} {v : Value} {l : KL f} (h : SlK w B v l) : SlE w B v (esK l) := by
 obtain ⟨A, c, hv, h1, h2, h3⟩ := h
 exact ⟨⟨A, c, by rw [esK_length]; exact hv, by rw [esK_length]; exact h1, h2, by rw [esK_length]; exact h3⟩, esK_ok l⟩
theorem SlE.toK {f : Nat} {w : World} {B : Nat} {v : Value} {l : KL f} (h : SlE w B v (esK l)) : SlK w B v l := by
 obtain ⟨⟨A, c, hv, h1, h2, h3⟩, _⟩ := h
 rw [esK_length] at hv h1 h3
 exact ⟨A, c, hv, h1, h2, h3⟩
theorem SlK.below {f : Nat} {w w' : World} {B : Nat} {v : Value} {l : KL f} (h : SlK w B v l) (hb : Below B w w') : SlK w' B v l := (h.toE.below hb).toK
theorem SlK.mono {f : Nat} {w : World} {B B' : Nat} {v : Value} {l : KL f} (h : SlK w B v l) (hB : B ≤ B') : SlK w B' v l := (h.toE.mono hB).toK
theorem SlK.later {f : Nat} {w w' : World} {v : Value} {l : KL f} (h : SlK w w.heap.size v l) (hb : Below w.heap.size w w') : SlK w' w'.heap.size v l := (h.below hb).mono hb.size
theorem RowE.kat {f : Nat} {w : World} {b o : Nat} {l : KL f} (h : RowE w b o (esK l)) {i : Nat} {x : Fin (Pm f)} (hx : l[i]? = some x) :
  w.cell? ⟨b, o + i * 2, none⟩ = some (.int .u64 (lo x)) ∧ w.cell? ⟨b, o + i * 2 + 1, none⟩ = some (.int .u64 (hi x)) := h i _ (esK_at hx)

end Go.Proofs.Ytpggflcapfkgpaa
