/-
 NRun, Ntt, PfB: what the statements of this layer share.
-/
import Derived.Test.YtfbfbijkkbflkaaGreatDoorMav
namespace Go.Proofs.YtfbfbijkkbflkaaGreatDoor
open Go.RowKit Fm
set_option linter.unusedVariables false
set_option maxRecDepth 100000

section
variable {f : Nat}
def laid (a : Nat → Fin (Pm f)) (L k q : Nat) : Fin (Pm f) := if rev L q < k then a (rev L q) else 0
theorem laid_zero (a : Nat → Fin (Pm f)) (L n : Nat) : ofF n (laid a L 0) = List.replicate n 0 :=
 List.ext_getElem (by rw [ofF_length, List.length_replicate]) fun i h1 h2 => by simp [ofF, laid]
theorem laid_set (a : Nat → Fin (Pm f)) (L k : Nat) (hL : L ≤ 10) (hk : k < 2 ^ L) : (ofF (2 ^ L) (laid a L k)).set (rev L k) (a k) = ofF (2 ^ L) (laid a L (k + 1)) := by
 refine ofF_set _ _ _ _ _ ?_ fun q hq hne => ?_
 ·unfold laid
  rw [rev_rev L hL k hk, if_pos (by omega)]
 ·unfold laid
  have h : rev L q ≠ k := fun e => hne (by rw [← e, rev_rev L hL q hq])
  by_cases h1 : rev L q < k
  ·rw [if_pos h1, if_pos (by omega)]
  ·rw [if_neg h1, if_neg (by omega)]
theorem laid_end (a : Nat → Fin (Pm f)) (r : Fin (Pm f)) (L : Nat) : ofF (2 ^ L) (laid a L (2 ^ L)) = ofF (2 ^ L) (stg a r 0 L) :=
 ofF_congr fun q hq => by
  unfold laid
  rw [if_pos (rev_lt L q), stg_zero]
end

section
variable {f : Nat}
structure RunT (w : World) (r x y : Fin (Pm f)) (xa ya gp : Nat) (P : KL f) (wz : World) : Prop where
 bl : Below w.heap.size w wz
 vr : V2 wz w.heap.size (.int .u64 (lo r)) (.int .u64 (hi r))
 vx : V2 wz xa (.int .u64 (lo x)) (.int .u64 (hi x))
 vy : V2 wz ya (.int .u64 (lo y)) (.int .u64 (hi y))
 rp : RwK wz gp P
structure RunS (w : World) (r x y : Fin (Pm f)) (xa ya gp : Nat) (P : KL f) (g : Nat) (l : KL f) (wz : World) : Prop where
 t : RunT w r x y xa ya gp P wz
 rw : RwK wz g l
theorem RunT.clo (w : World) (r x y : Fin (Pm f)) (xa ya gp : Nat) (P : KL f) : Clo (RunT w r x y xa ya gp P) := fun _ _ h hb => ⟨bl_call h.bl (Nat.le_refl _) hb, h.vr.call hb, h.vx.call hb, h.vy.call hb, h.rp.call hb⟩
theorem RunS.clo (w : World) (r x y : Fin (Pm f)) (xa ya gp : Nat) (P : KL f) (g : Nat) (l : KL f) : Clo (RunS w r x y xa ya gp P g l) := fun _ _ h hb => ⟨RunT.clo w r x y xa ya gp P _ _ h.t hb, h.rw.call hb⟩
theorem RunS.store {w wz : World} {r x y : Fin (Pm f)} {xa ya gp g : Nat} {P l : KL f} (h : RunS w r x y xa ya gp P g l wz) (q : Nat) (hq : q < l.length) (z : Fin (Pm f)) (hg : w.heap.size < g) (h1 : g ≠ xa) (h2 : g ≠ ya) (h3 : g ≠ gp) :
  RunS w r x y xa ya gp P g (l.set q z) ((wz.setCell ⟨g, q * 2, none⟩ (.int .u64 (lo z))).setCell ⟨g, q * 2 + 1, none⟩ (.int .u64 (hi z))) :=
 ⟨⟨bl_set (bl_set h.t.bl (by dsimp only; omega) _) (by dsimp only; omega) _, (h.t.vr.setOther (by dsimp only; omega) _).setOther (by dsimp only; omega) _, (h.t.vx.setOther h1 _).setOther h1 _, (h.t.vy.setOther h2 _).setOther h2 _, (h.t.rp.far h3 _).far h3 _⟩, h.rw.set q hq z⟩
end

section
variable {f : Nat} (hf : IsF f)
include hf

set_option maxHeartbeats 16000000 in
theorem ntt_run (L : Nat) (hL : L ≤ 10) (vl : Value) (l : KL f) (hl : l.length = 2 ^ L) (r : Fin (Pm f)) (hr : Rt r L) (w : World) (hs : SlK w w.heap.size vl l) :
  Calls Tryz.prog 82 #[.int .u8 f, vl, vK r, .int .i64 L] w (RetBlk (vals r (2 ^ L) l) w) := by
 have hfb0 : (1 : Int) ≤ (f : Int) := by rcases hf.or with rfl | rfl <;> omega
 have hfb1 : (f : Int) ≤ 2 := by rcases hf.or with rfl | rfl <;> omega
 have HMU := Lib.hid (fun x y wz => field_MulK hf x y wz)
 have HADD := Lib.hid (fun x y wz => field_AddK hf x y wz)
 have HSUB := Lib.hid (fun x y wz => field_SubK hf x y wz)
 have HPW := Lib.hid (fun x n hn wz => field_Powers hf x n hn wz)
 have HTU := Lib.hid (fun (i k : Nat) h1 h2 h3 wz => ntt_turned i k h1 h2 h3 wz)
 have hN0 : 0 < 2 ^ L := Nat.two_pow_pos L
 have hN1 : 2 ^ L ≤ 2 ^ 10 := Nat.pow_le_pow_right (by omega) hL
 have HEND := Lib.hid (laid_end (fun i => l.getD i 0) r L)
 have HVAL : Hid (ofF (2 ^ L) (stg (fun i => l.getD i 0) r L 0) = vals r (2 ^ L) l) := by
  show _ = _
  rw [vals_sm r L l (by omega)]
  exact ofF_congr fun q hq => stg_last _ _ _ _ hq
 have HLS := Lib.hid (fun k hk => laid_set (fun i => l.getD i 0) L k hL hk)
 have HLZ := Lib.hid (laid_zero (fun i => l.getD i 0) L (2 ^ L))
 have HRL := Lib.hid (fun k => rev_lt L k)
 have hmk := make_elem (2 ^ L) (by omega)
 obtain ⟨A, c, rfl, hc, hcm, hA⟩ := hs
 obtain ⟨b, o, rfl, hB, hrow⟩ := hA (by omega)
 have HAT : Hid (∀ k, k < 2 ^ L → ∃ x, l[k]? = some x ∧ l.getD k 0 = x) := fun k hk => ⟨_, List.getElem?_eq_getElem (by omega), Fm.getD_in (by omega)⟩
 rw [hl]
 have HRV := Lib.hid (show (vals r (2 ^ L) l).length = 2 ^ L from ofF_length ..)
 have HPN : Hid (∀ s, s < L → 2 ^ s ≤ 512 ∧ 2 ^ (L - (s + 1)) * 2 ^ (s + 1) = 2 ^ L ∧ 2 ^ (s + 1) = 2 * 2 ^ s ∧ 1 ≤ 2 ^ s) := fun s hs => by
  have h1 : 2 ^ s ≤ 2 ^ 9 := Nat.pow_le_pow_right (by omega) (by omega)
  exact ⟨by omega, by rw [← Nat.pow_add]; congr 1; omega, by rw [Nat.pow_succ, Nat.mul_comm], Nat.two_pow_pos s⟩
 obtain ⟨n, hn⟩ : ∃ n, 2 ^ L = n := ⟨_, rfl⟩
 have HN := Lib.hid hn
 have hrw0 := hrow
 have HRW := Lib.hid hrow
 clear hA hrw0 hrow
 rw [hl, hn] at hc
 rw [hn] at hmk hN0 hN1 HLZ ⊢
 clear hn hl
 go_enter Tryz.func82, Tryz.ntmps82
 go_upto_region 1 with fail
 have q0 := V2.new w (.int .u64 (lo r)) (.int .u64 (hi r)) 36
 have hb00 : Below w.heap.size w (w.alloc (.cells #[(.int .u64 (lo r)), (.int .u64 (hi r))] 36)) := by repeat (first | exact bA | with_reducible assumption | apply bB)
 have hsz : w.heap.size + 1 ≤ (w.alloc (.cells #[(.int .u64 (lo r)), (.int .u64 (hi r))] 36)).heap.size := by simp only [World.size_alloc]; omega
 generalize (w.alloc (.cells #[(.int .u64 (lo r)), (.int .u64 (hi r))] 36)) = w1 at q0 hb00 hsz ⊢
 go_upto_region 2 with fail
 obtain ⟨g, hg⟩ : ∃ z, w1.heap.size = z := ⟨_, rfl⟩
 have HB0 : RwK (w1.alloc (.cells (cellsE (List.replicate n (0, 0))).toArray 36)) g (ofF n (laid (fun i => l.getD i 0) L 0)) := by
  have h : BlkE (w1.alloc (.cells (cellsE (List.replicate n (0, 0))).toArray 36)) w1.heap.size (esK (List.replicate n (0 : Fin (Pm f)))) := by
   rw [show esK (List.replicate n (0 : Fin (Pm f))) = List.replicate n (0, 0) by unfold esK; rw [List.map_replicate, eK_zero]]
   exact heap_alloc_new w1 _
  have h2 := h.rw
  rw [hg] at h2
  have h3 := HLZ.out
  rw [← h3] at h2
  exact h2
 have hgw : w.heap.size + 1 ≤ g := by omega
 have hga : g < (w1.alloc (.cells (cellsE (List.replicate n (0, 0))).toArray 36)).heap.size := by rw [World.size_alloc]; omega
 replace q0 := q0.alloc (.cells (cellsE (List.replicate n (0, 0))).toArray 36)
 replace hb00 : Below w.heap.size w (w1.alloc (.cells (cellsE (List.replicate n (0, 0))).toArray 36)) := by repeat (first | exact bA | with_reducible assumption | apply bB | (refine bC ?_ (by dsimp only; omega)) | apply bD | apply bE | (refine bF ?_ (by assumption)))
 simp only [hg]
 generalize w1.alloc (.cells (cellsE (List.replicate n (0, 0))).toArray 36) = w2 at HB0 hga q0 hb00 ⊢
 clear hmk HLZ hg hsz
 go_wp2_with fail
 go_loopw [27] (fun i wr => ∃ k : Nat, k ≤ n ∧ i = .int .i64 k ∧ RwK wr g (ofF n (laid (fun i => l.getD i 0) L k)) ∧ V2 wr w.heap.size (.int .u64 (lo r)) (.int .u64 (hi r)) ∧ Below w.heap.size w wr ∧ g < wr.heap.size) (fun i _ => n - (intOf i).toNat)
 case atStart => exact ⟨0, Nat.zero_le _, rfl, HB0, q0, hb00, hga⟩
 case round =>
  clear HB0 q0 hb00 hga
  obtain ⟨k, hk, rfl, HR, q0, hb00, hga⟩ := hrel
  by_cases hlt : k < n
  ·obtain ⟨x, hx, hxd⟩ := HAT.out k (by rw [HN.out]; exact hlt)
   obtain ⟨c0, c1⟩ := ((HRW.out).below hb00 hB).kat hx
   have HX := Lib.hid hxd
   have HBL : Hid (b < wr.heap.size) := Nat.lt_of_lt_of_le hB hb00.size
   clear hx hxd
   have HSET : Hid ((ofF n (laid (fun i => l.getD i 0) L k)).set (rev L k) x = ofF n (laid (fun i => l.getD i 0) L (k + 1))) := by
    show _ = _
    have h := HLS.out k (by rw [HN.out]; exact hlt)
    rwa [HN.out, HX.out] at h
   have hqn : rev L k < n := by have := HRL.out k; rwa [HN.out] at this
   have HT : Hid (L = 0 ∨ ∀ wz, Calls Tryz.prog 113 #[.int .i64 k, .int .i64 L] wz (RetI (rev L k) wz)) := by
    rcases Nat.eq_zero_or_pos L with h | h
    ·exact .inl h
    ·exact .inr fun wz => HTU.out k L hL h (by rw [HN.out]; exact hlt) wz
   have HZ0 : Hid (L = 0 → rev L k = 0) := fun h => by rw [h]; rfl
   generalize rev L k = q at *
   go_upto_region 5 with fail
   have x0 := V2.new wr (.int .u64 (lo x)) (.int .u64 (hi x)) 36
   have hbA : Below wr.heap.size wr (wr.alloc (.cells #[.int .u64 (lo x), .int .u64 (hi x)] 36)) := by repeat (first | exact bA | with_reducible assumption | apply bB)
   replace hb00 := bl_call hb00 (Nat.le_refl _) hbA
   replace q0 := q0.call hbA
   replace HR := HR.call hbA
   clear hbA
   generalize wr.alloc (.cells #[.int .u64 (lo x), .int .u64 (hi x)] 36) = w3 at hb00 q0 HR x0 ⊢
   obtain ⟨xb, hxb⟩ : ∃ z, wr.heap.size = z := ⟨_, rfl⟩
   rw [hxb] at x0
   simp only [hxb]
   have hxg : g < xb := by omega
   clear hxb c0 c1 HBL hga
   rcases Nat.eq_zero_or_pos L with hL0 | hL0
   ·obtain rfl : q = 0 := HZ0.out hL0
    have t1 : ¬ (0 < L) := by omega
    have t2 : decide (0 < L) = false := by simpa using t1
    clear HT HZ0 HTU HRL HLS HEND HVAL hL0
    obtain ⟨c0, c1⟩ := HR.at (i := 0) (x := (ofF n (laid (fun i => l.getD i 0) L k)).getD 0 0) (by rw [Fm.getD_in (by rw [ofF_length]; exact hqn)]; exact List.getElem?_eq_getElem _)
    obtain ⟨c2, c3⟩ := HR.frz (i := 0) (by rw [ofF_length]; exact hqn)
    have hgl := HR.lt
    obtain ⟨x00, x01, x02, x03, x04⟩ := V2.mk x0.c0 x0.c1 x0.f0 x0.f1 x0.lt
    go_wp2_with fail
    go_roundw
    case rel => 
     have h := HR.set 0 (by rw [ofF_length]; exact hqn) x
     rw [HSET.out] at h
     exact ⟨k + 1, by omega, by go_num, h, V2.setOther (V2.setOther q0 (by dsimp only; omega) _) (by dsimp only; omega) _, by repeat (first | exact bA | with_reducible assumption | apply bB | (refine bC ?_ (by dsimp only; omega)) | apply bD | apply bE | (refine bF ?_ (by assumption))), by have := HR.lt; simpa [World.setCell] using this⟩
    case measure => simp [intOf]; omega
   ·have hT : ∀ wz, Calls Tryz.prog 113 #[.int .i64 k, .int .i64 L] wz (RetI q wz) := HT.out.resolve_left (by omega)
    have HT2 := Lib.hid hT
    clear HT hT HZ0 HTU
    go_wp2_with fail
    refine (HT2.out _).mono ?_
    rintro e w5 ⟨rfl, hb5⟩
    replace hb00 := bl_call hb00 (Nat.le_refl _) hb5
    replace q0 := q0.call hb5
    replace HR := HR.call hb5
    replace x0 := x0.call hb5
    obtain ⟨c0, c1⟩ := HR.at (i := q) (x := (ofF n (laid (fun i => l.getD i 0) L k)).getD q 0) (by rw [Fm.getD_in (by rw [ofF_length]; exact hqn)]; exact List.getElem?_eq_getElem _)
    obtain ⟨c2, c3⟩ := HR.frz (i := q) (by rw [ofF_length]; exact hqn)
    have hgl := HR.lt
    obtain ⟨x00, x01, x02, x03, x04⟩ := V2.mk x0.c0 x0.c1 x0.f0 x0.f1 x0.lt
    go_wp2_with fail
    go_roundw
    case rel => 
     have h := HR.set q (by rw [ofF_length]; exact hqn) x
     rw [HSET.out] at h
     exact ⟨k + 1, by omega, by go_num, h, V2.setOther (V2.setOther q0 (by dsimp only; omega) _) (by dsimp only; omega) _, by repeat (first | exact bA | with_reducible assumption | apply bB | (refine bC ?_ (by dsimp only; omega)) | apply bD | apply bE | (refine bF ?_ (by assumption))), by have := HR.lt; simpa [World.setCell] using this⟩
    case measure => simp [intOf]; omega
  ·obtain rfl : k = n := by omega
   have h0 := HEND.out
   rw [HN.out] at h0
   rw [h0] at HR
   clear h0 HEND HLS HAT HRW HTU HRL hk hlt hc hcm
   have HM1 : Hid (∀ s t B i (x y p : Fin (Pm f)) q1 q2, s + 1 + t = L → i < 2 ^ s → q1 = B * (2 * 2 ^ s) + i → q2 = q1 + 2 ^ s → x = stg (fun i => l.getD i 0) r s (t + 1) q1 → y = stg (fun i => l.getD i 0) r s (t + 1) q2 → p = Fm.kpow (Fm.kpow r (2 ^ t)) i →
     ((ofF k (mid (fun i => l.getD i 0) r s t B i)).set q1 (x + y * p)).set q2 (x - y * p) = ofF k (mid (fun i => l.getD i 0) r s t B (i + 1))) := by
    intro s t B i x y p q1 q2 hst hi hq1 hq2 hx hy hp
    have hpw : 2 * 2 ^ s = 2 ^ (s + 1) := by rw [Nat.pow_succ, Nat.mul_comm]
    rw [hpw] at hq1
    subst hq2 hq1
    have h := mid_set (fun i => l.getD i 0) r s t B i hi (by rw [hst]; exact hr) x (y * p) hx (by rw [hy, hp])
    rwa [hst, HN.out] at h
   have HM2 : Hid (∀ s t B i q, i < 2 ^ s → (q = B * (2 * 2 ^ s) + i ∨ q = B * (2 * 2 ^ s) + i + 2 ^ s) → mid (fun i => l.getD i 0) r s t B i q = stg (fun i => l.getD i 0) r s (t + 1) q) := by
    intro s t B i q hi hq
    have hpw : 2 * 2 ^ s = 2 ^ (s + 1) := by rw [Nat.pow_succ, Nat.mul_comm]
    rw [hpw] at hq
    exact (mid_at (fun i => l.getD i 0) r s t B i q hi hq).1
   have HM3 : Hid (∀ s t, s + 1 + t = L → ofF k (mid (fun i => l.getD i 0) r s t 0 0) = ofF k (stg (fun i => l.getD i 0) r s (t + 1))) := fun s t _ => ofF_congr fun q _ => Fm.mid_start ..
   have HM4 : Hid (∀ s t B, ofF k (mid (fun i => l.getD i 0) r s t B (2 ^ s)) = ofF k (mid (fun i => l.getD i 0) r s t (B + 1) 0)) := fun s t B => ofF_congr fun q _ => Fm.mid_next ..
   have HM5 : Hid (∀ s t, s + 1 + t = L → ofF k (mid (fun i => l.getD i 0) r s t (2 ^ t) 0) = ofF k (stg (fun i => l.getD i 0) r (s + 1) t)) := fun s t h => ofF_congr fun q hq => Fm.mid_end _ _ _ _ _ (by rw [h, HN.out]; exact hq)
   generalize (fun i => l.getD i 0) = a at *
   go_wp2_with fail
   go_loopw [13] (fun sv wr => ∃ s : Nat, s ≤ L ∧ sv = .int .i64 ((s : Int) + 1) ∧ RwK wr g (ofF k (stg a r s (L - s))) ∧ V2 wr w.heap.size (.int .u64 (lo r)) (.int .u64 (hi r)) ∧ Below w.heap.size w wr ∧ g < wr.heap.size) (fun sv _ => L + 1 - (intOf sv).toNat)
   case atStart => exact ⟨0, Nat.zero_le _, rfl, HR, q0, hb00, hga⟩
   case round =>
    clear HR q0 hb00 hga
    obtain ⟨s, hs, rfl, HR, q0, hb00, hga⟩ := hrel
    by_cases hlt : s < L
    ·obtain ⟨hp1, hp2, hp3, hp4⟩ := HPN.out s hlt
     obtain ⟨t, ht⟩ : ∃ t, L - (s + 1) = t := ⟨_, rfl⟩
     have HST : Hid (s + 1 + t = L) := by show _ = _; omega
     rw [show L - s = t + 1 by omega] at HR
     have hsub : (L : Int) - ((s : Int) + 1) = (t : Int) := by omega
     have hs64 : (s : Int) < 64 := by omega
     have t1 : s + 1 ≤ L := by omega
     have t2 : decide ((s : Int) + 1 ≤ (L : Int)) = true := by simp; omega
     rw [ht] at hp2
     rw [HN.out, hp3] at hp2
     have HM1s := Lib.hid (fun B i x y p q1 q2 => HM1.out s t B i x y p q1 q2 HST.out)
     have HM2s := Lib.hid (fun B i q => HM2.out s t B i q)
     have HM3s := Lib.hid (HM3.out s t HST.out)
     have HM4s := Lib.hid (fun B => HM4.out s t B)
     have HM5s := Lib.hid (HM5.out s t HST.out)
     have hpi : (2 : Int) ^ s = ((2 ^ s : Nat) : Int) := by rw [Int.natCast_pow]; rfl
     clear hp3 ht
     rw [← HM3s.out] at HR
     obtain ⟨h, hh⟩ : ∃ h, 2 ^ s = h := ⟨_, rfl⟩
     obtain ⟨m, hm⟩ : ∃ m, 2 ^ t = m := ⟨_, rfl⟩
     rw [hh] at hp1 hp2 hp4 HM1s HM2s HM4s hpi
     rw [hm] at hp2 HM1s HM5s
     have HM := Lib.hid hm
     have HP2 := Lib.hid hp2
     have hh1 : (1 : Int) ≤ (h : Int) := by omega
     have hh2 : (h : Int) ≤ 512 := by omega
     clear HM1 HM2 HM3 HM4 HM5 hm hp2 hh
     obtain ⟨q00, q01, q02, q03, q04⟩ := V2.mk q0.c0 q0.c1 q0.f0 q0.f1 q0.lt
     go_upto_region 15 with fail
     clear q00 q01 q02 q03 q04
     have z0 := V2.new wr (.int .u64 (lo r)) (.int .u64 (hi r)) 36
     have hbA : Below wr.heap.size wr (wr.alloc (.cells #[.int .u64 (lo r), .int .u64 (hi r)] 36)) := by repeat (first | exact bA | with_reducible assumption | apply bB)
     replace hb00 := bl_call hb00 (Nat.le_refl _) hbA
     replace q0 := q0.call hbA
     replace HR := HR.call hbA
     clear hbA
     generalize wr.alloc (.cells #[.int .u64 (lo r), .int .u64 (hi r)] 36) = w3 at hb00 q0 HR z0 ⊢
     obtain ⟨zb, hzb⟩ : ∃ z, wr.heap.size = z := ⟨_, rfl⟩
     rw [hzb] at z0
     simp only [hzb]
     have hzg : g < zb := by omega
     have hga3 : zb < w3.heap.size := z0.lt
     clear hzb hga
     go_wp2_with fail
     go_loopw [54] (fun jv wi => ∃ (j : Nat) (z : Fin (Pm f)), j ≤ t ∧ jv = .int .i64 j ∧ Hid (z = Fm.kpow r (2 ^ j)) ∧ V2 wi zb (.int .u64 (lo z)) (.int .u64 (hi z)) ∧ RwK wi g (ofF k (mid a r s t 0 0)) ∧ V2 wi w.heap.size (.int .u64 (lo r)) (.int .u64 (hi r)) ∧ Below w.heap.size w wi) (fun jv _ => t - (intOf jv).toNat)
     case atStart => exact ⟨0, r, Nat.zero_le _, rfl, (by show _ = _; rw [Nat.pow_zero, Fm.kpow_one]), z0, HR, q0, hb00⟩
     case round =>
      clear HR q0 hb00 z0 hga3
      obtain ⟨j, z, hj, rfl, hz, z0, HR, q0, hb00⟩ := hrel
      by_cases hjt : j < t
      ·have HZ : Hid (z * z = Fm.kpow r (2 ^ (j + 1))) := by show _ = _; rw [hz.out, ← Fm.kpow_add, Nat.pow_succ, Nat.mul_two]
       obtain ⟨z00, z01, z02, z03, z04⟩ := V2.mk z0.c0 z0.c1 z0.f0 z0.f1 z0.lt
       go_upto_region 18 with (first
        | (go_at_call 79; refine (HMU.out _ _ _).mono ?_; rintro e w5 ⟨rfl, hb5⟩; replace hb00 := bl_call hb00 (Nat.le_refl _) hb5; replace q0 := q0.call hb5; replace HR := HR.call hb5; replace z0 := z0.call hb5; clear z00 z01 z02 z03 z04; clear hb5; obtain ⟨z00, z01, z02, z03, z04⟩ := V2.mk z0.c0 z0.c1 z0.f0 z0.f1 z0.lt))
       clear z00 z01 z02 z03 z04
       go_wp2_with fail
       go_roundw
       case rel => exact ⟨j + 1, _, by omega, by go_num, HZ, V2.set z0 _ _, (HR.far (by dsimp only; omega) _).far (by dsimp only; omega) _, V2.oth q0 (b := zb) (by omega) _ _, bl_st hb00 (by omega) _ _⟩
       case measure => simp [intOf]; omega
      ·obtain rfl : j = t := by omega
       obtain ⟨z00, z01, z02, z03, z04⟩ := V2.mk z0.c0 z0.c1 z0.f0 z0.f1 z0.lt
       go_wp2_with fail
       clear z0 hjt hj
       have HW := Lib.hid hz.out
       clear hz
       refine (HPW.out z h (by omega) _).mono ?_
       rintro e w5 ⟨vp, rfl, hown, hb5⟩
       rcases own_cases hown with ⟨_, h0⟩ | ⟨gp, cp, rfl, HP, hgp, hcp, hcpm⟩
       ·have h1 := congrArg List.length h0
        rw [pows_length] at h1
        simp at h1
        omega
       have hgp2 : g < gp := Nat.lt_of_lt_of_le HR.lt hgp
       have hgw2 : w.heap.size < gp := by omega
       rw [pows_length] at hcp ⊢
       clear z00 z01 z02 z03 z04
       replace hb00 := bl_call hb00 (Nat.le_refl _) hb5
       replace q0 := q0.call hb5
       replace HR := HR.call hb5
       clear hown hb5 hgp
       have HPA : Hid (∀ i, i < h → (pows z h)[i]? = some (Fm.kpow z i)) := fun i hi => by
        have h2 := List.getElem?_eq_getElem (l := pows z h) (i := i) (by rw [pows_length]; exact hi)
        rw [h2, ← Fm.getD_in]
        unfold pows
        rw [ofF_getD, if_pos hi]
       go_wp2_with fail
       go_loopw [17] (fun av wi => ∃ B : Nat, B ≤ m ∧ av = .int .i64 ((B * (2 * h) : Nat) : Int) ∧ RwK wi g (ofF k (mid a r s j B 0)) ∧ RwK wi gp (pows z h) ∧ V2 wi w.heap.size (.int .u64 (lo r)) (.int .u64 (hi r)) ∧ Below w.heap.size w wi) (fun av _ => k - (intOf av).toNat)
       case atStart => exact ⟨0, Nat.zero_le _, by rw [Nat.zero_mul]; rfl, HR, HP, q0, hb00⟩
       case round =>
        clear HR HP q0 hb00
        obtain ⟨B, hB', rfl, HR, HP, q0, hb00⟩ := hrel
        by_cases hBm : B < m
        ·have hAk : B * (2 * h) + 2 * h ≤ k := by
          have := Nat.mul_le_mul_right (2 * h) hBm
          rw [Nat.succ_mul, HP2.out] at this
          exact this
         have HBS : Hid ((B + 1) * (2 * h) = B * (2 * h) + 2 * h) := Nat.succ_mul _ _
         have HM1b := Lib.hid (fun i x y p q1 q2 => HM1s.out B i x y p q1 q2)
         have HM2b := Lib.hid (fun i q => HM2s.out B i q)
         obtain ⟨A0, hA0⟩ : ∃ A0, B * (2 * h) = A0 := ⟨_, rfl⟩
         rw [hA0] at hAk HBS HM1b HM2b ⊢
         have HA0 := Lib.hid hA0
         clear hA0
         have t5 : A0 < k := by omega
         go_wp2_with fail
         go_loopw [75] (fun iv wj => ∃ i : Nat, i ≤ h ∧ iv = .int .i64 i ∧ RwK wj g (ofF k (mid a r s j B i)) ∧ RwK wj gp (pows z h) ∧ V2 wj w.heap.size (.int .u64 (lo r)) (.int .u64 (hi r)) ∧ Below w.heap.size w wj) (fun iv _ => h - (intOf iv).toNat)
         case atStart => exact ⟨0, Nat.zero_le _, rfl, HR, HP, q0, hb00⟩
         case round =>
          clear HR HP q0 hb00
          obtain ⟨i, hib, rfl, HR, HP, q0, hb00⟩ := hrel
          by_cases hih : i < h
          ·obtain ⟨c0, c1⟩ := HP.at (HPA.out i hih)
           obtain ⟨p, hp⟩ : ∃ p, Fm.kpow z i = p := ⟨_, rfl⟩
           rw [hp] at c0 c1
           obtain ⟨q1, hq1⟩ : ∃ q, A0 + i = q := ⟨_, rfl⟩
           obtain ⟨q2, hq2⟩ : ∃ q, q1 + h = q := ⟨_, rfl⟩
           have hq1k : q1 < k := by omega
           have hq2k : q2 < k := by omega
           obtain ⟨x, hx⟩ : ∃ x, (ofF k (mid a r s j B i))[q1]? = some x := ⟨_, List.getElem?_eq_getElem (by rw [ofF_length]; exact hq1k)⟩
           obtain ⟨y, hy⟩ : ∃ y, (ofF k (mid a r s j B i))[q2]? = some y := ⟨_, List.getElem?_eq_getElem (by rw [ofF_length]; exact hq2k)⟩
           have hxs : x = stg a r s (j + 1) q1 := by
            rw [← HM2b.out i q1 hih (.inl hq1.symm), ← Option.some.injEq, ← hx]
            simp [ofF, hq1k]
           have hys : y = stg a r s (j + 1) q2 := by
            rw [← HM2b.out i q2 hih (.inr (by omega)), ← Option.some.injEq, ← hy]
            simp [ofF, hq2k]
           have HSET := Lib.hid (HM1b.out i x y p q1 q2 hih hq1.symm hq2.symm hxs hys (by rw [← hp, HW.out, ← HM.out]))
           have HX := Lib.hid hx
           have HY := Lib.hid hy
           have HQ1 := Lib.hid hq1
           have HQ2 := Lib.hid hq2
           have v1 : IntKind.i64.wrap ((A0 : Int) + (i : Int)) = (q1 : Int) := by rw [IntWalk.i64_in _ (by omega)]; omega
           have v2 : IntKind.i64.wrap ((q1 : Int) + (h : Int)) = (q2 : Int) := by rw [IntWalk.i64_in _ (by omega)]; omega
           clear hxs hys hx hy hp hq1 hq2
           go_upto_region 26 with fail
           have hpg : gp < wr.heap.size := HP.lt
           have p0 := V2.new wr (.int .u64 (lo p)) (.int .u64 (hi p)) 36
           have hbA : Below wr.heap.size wr (wr.alloc (.cells #[.int .u64 (lo p), .int .u64 (hi p)] 36)) := by repeat (first | exact bA | with_reducible assumption | apply bB)
           replace hb00 := bl_call hb00 (Nat.le_refl _) hbA
           replace q0 := q0.call hbA
           replace HR := HR.call hbA
           replace HP := HP.call hbA
           clear hbA
           generalize wr.alloc (.cells #[.int .u64 (lo p), .int .u64 (hi p)] 36) = w5 at hb00 q0 HR HP p0 ⊢
           obtain ⟨pb, hpb⟩ : ∃ z, wr.heap.size = z := ⟨_, rfl⟩
           rw [hpb] at p0 hpg
           simp only [hpb]
           clear hpb c0 c1
           obtain ⟨c0, c1⟩ := HR.at HX.out
           obtain ⟨d0, d1⟩ := HR.at HY.out
           have g1 : (0 : Int) ≤ (q1 : Int) := by omega
           have g2 : (q1 : Int) < (k : Int) := by omega
           have g3 : (0 : Int) ≤ (q2 : Int) := by omega
           have g4 : (q2 : Int) < (k : Int) := by omega
           have g5 := HR.lt
           obtain ⟨p00, p01, p02, p03, p04⟩ := V2.mk p0.c0 p0.c1 p0.f0 p0.f1 p0.lt
           apply region_G2 (n := 19) (m := 21) (f := 19) ((fun xa ya wz => Below w5.heap.size w5 wz ∧ (w5.heap.size ≤ xa ∧ V2 wz xa (.int .u64 0) (.int .u64 0)) ∧ (w5.heap.size ≤ ya ∧ V2 wz ya (.int .u64 0) (.int .u64 0)) ∧ xa ≠ ya))
           case hm => kernel_rfl
           case hB => kernel_rfl
           case hf => rfl
           case' h =>
            refine WpG.vD 0 (some 80) ?_ rfl rfl (by kernel_rfl) (fun _ _ _ h => h) rfl (fun wz hwz => ?_) ?_
            rotate_left
            ·go_simp; try (with_reducible rfl)
            simp only [Zp, Zq, Zr, Zs]
            refine WpG.vD 1 (some 81) ?_ rfl rfl (by kernel_rfl) (fun _ _ _ h => h) rfl (fun wz hwz => ?_) ?_
            rotate_left
            ·go_simp; try (with_reducible rfl)
            simp only [Zp, Zq, Zr, Zs]
            refine WpG.vD 2 (some 82) ?_ rfl rfl (by kernel_rfl) (fun _ _ _ h => h) rfl (fun wz hwz => ?_) ?_
            rotate_left
            ·go_simp; try (with_reducible rfl)
            simp only [Zp, Zq, Zr, Zs]
            refine WpG.vD 3 (some 83) ?_ rfl rfl (by kernel_rfl) (fun _ _ _ h => h) rfl (fun wz hwz => ?_) ?_
            rotate_left
            ·go_simp; try (with_reducible rfl)
            simp only [Zp, Zq, Zr, Zs]
            refine WpG.vD 4 (some 84) ?_ rfl rfl (by kernel_rfl) (fun _ _ _ h => h) rfl (fun wz hwz => ?_) ?_
            rotate_left
            ·go_simp; try (with_reducible rfl)
            simp only [Zp, Zq, Zr, Zs]
            refine WpG.vD 5 (some 85) ?_ rfl rfl (by kernel_rfl) (fun _ _ _ h => h) rfl (fun wz hwz => ?_) ?_
            rotate_left
            ·(obtain ⟨hcz, hfz⟩ := bcell (hwz); go_simp; try (with_reducible rfl))
            simp only [Zp, Zq, Zr, Zs]
            refine WpG.vD 6 (some 86) ?_ rfl rfl (by kernel_rfl) (fun _ _ _ h => h) rfl (fun wz hwz => ?_) ?_
            rotate_left
            ·go_simp; try (with_reducible rfl)
            simp only [Zp, Zq, Zr, Zs]
            refine WpG.vD 7 (some 87) ?_ rfl rfl (by kernel_rfl) (fun _ _ _ h => h) rfl (fun wz hwz => ?_) ?_
            rotate_left
            ·go_simp; try (with_reducible rfl)
            simp only [Zp, Zq, Zr, Zs]
            refine WpG.vD 8 (some 88) ?_ rfl rfl (by kernel_rfl) (fun _ _ _ h => h) rfl (fun wz hwz => ?_) ?_
            rotate_left
            ·go_simp; try (with_reducible rfl)
            simp only [Zp, Zq, Zr, Zs]
            refine WpG.vD 9 (some 89) ?_ rfl rfl (by kernel_rfl) (fun _ _ _ h => h) rfl (fun wz hwz => ?_) ?_
            rotate_left
            ·go_simp; try (with_reducible rfl)
            simp only [Zp, Zq, Zr, Zs]
            refine WpG.vD 10 (some 90) ?_ rfl rfl (by kernel_rfl) (fun _ _ _ h => h) rfl (fun wz hwz => ?_) ?_
            rotate_left
            ·go_simp; try (with_reducible rfl)
            simp only [Zp, Zq, Zr, Zs]
            refine WpG.vD 11 (some 91) ?_ rfl rfl (by kernel_rfl) (fun _ _ _ h => h) rfl (fun wz hwz => ?_) ?_
            rotate_left
            ·go_simp; try (with_reducible rfl)
            simp only [Zp, Zq, Zr, Zs]
            refine WpG.vD 12 (some 92) ?_ rfl rfl (by kernel_rfl) (fun _ _ _ h => h) rfl (fun wz hwz => ?_) ?_
            rotate_left
            ·go_simp; try (with_reducible rfl)
            simp only [Zp, Zq, Zr, Zs]
            refine WpG.vD 13 (some 93) ?_ rfl rfl (by kernel_rfl) (fun _ _ _ h => h) rfl (fun wz hwz => ?_) ?_
            rotate_left
            ·go_simp; try (with_reducible rfl)
            simp only [Zp, Zq, Zr, Zs]
            refine WpG.vD 14 (some 94) ?_ rfl rfl (by kernel_rfl) (fun _ _ _ h => h) rfl (fun wz hwz => ?_) ?_
            rotate_left
            ·(obtain ⟨hcz, hfz⟩ := bcell (hwz); go_simp; try (with_reducible rfl))
            simp only [Zp, Zq, Zr, Zs]
            refine WpG.vD 15 (some 95) ?_ rfl rfl (by kernel_rfl) (fun _ _ _ h => h) rfl (fun wz hwz => ?_) ?_
            rotate_left
            ·(obtain ⟨hcz, hfz⟩ := bcell (hwz); go_simp; try (with_reducible rfl))
            simp only [Zp, Zq, Zr, Zs]
            refine WpG.takeD 16 (some 96) rfl rfl (by kernel_rfl) (fun _ _ _ h => h) (.call rfl (fun wz hwz => HMU.out y p wz) (fun wz hwz => ?_)) ?_
            ·go_simp; try (with_reducible rfl)
            simp only [Zp, Zq, Zr, Zs]
            refine WpG.twoD 17 18 (some 20) (some 21) rfl rfl rfl rfl (by kernel_rfl) (fun b : Nat => Value.pointer (some ⟨b, 0, none⟩)) (fun b wz => w5.heap.size ≤ b ∧ V2 wz b (.int .u64 0) (.int .u64 0)) (fun _ _ _ h hb => ⟨h.1, h.2.call hb⟩) (Fresh.var [.int .u64 0, .int .u64 0] 36 rfl (fun wz hwz => (hwz).size) (fun wz hwz => by go_simp; try (with_reducible rfl)) (R := fun b wz => V2 wz b (.int .u64 0) (.int .u64 0)) (fun wz hwz => V2.new wz _ _ _)) (fun b : Nat => Value.pointer (some ⟨b, 0, none⟩)) (fun b wz => w5.heap.size ≤ b ∧ V2 wz b (.int .u64 0) (.int .u64 0)) (fun _ _ _ h hb => ⟨h.1, h.2.call hb⟩) (Fresh.var [.int .u64 0, .int .u64 0] 36 rfl (fun wz hwz => (hwz).size) (fun wz hwz => by go_simp; try (with_reducible rfl)) (R := fun b wz => V2 wz b (.int .u64 0) (.int .u64 0)) (fun wz hwz => V2.new wz _ _ _)) (fun xa w0xa hw0xa hR0xa => ?rg26_11a) (fun ya w0ya hw0ya hR0ya => ?rg26_11b)
            case' rg26_11a =>
             simp only [Zp, Zq, Zr, Zs]
             refine WpG.oneD 18 (some 21) rfl rfl (by kernel_rfl) (fun b : Nat => Value.pointer (some ⟨b, 0, none⟩)) (fun b wz => xa + 1 ≤ b ∧ V2 wz b (.int .u64 0) (.int .u64 0)) (fun _ _ _ h hb => ⟨h.1, h.2.call hb⟩) (Fresh.var [.int .u64 0, .int .u64 0] 36 rfl (fun wz hwz => (hwz.2).2.lt) (fun wz hwz => by go_simp; try (with_reducible rfl)) (R := fun b wz => V2 wz b (.int .u64 0) (.int .u64 0)) (fun wz hwz => V2.new wz _ _ _)) (fun ya w0ya hw0ya hR0ya => ?_)
             simp only [Zp, Zq, Zr, Zs]
             refine WpG.done (by kernel_rfl) (fun w6 hS => ⟨xa, ya, rfl, ?_⟩)
             ·(obtain ⟨⟨h1, h2, h2'⟩, h3, h3'⟩ := hS; first | exact ⟨h1, ⟨h2, h2'⟩, ⟨by omega, h3'⟩, by omega⟩ | exact ⟨h1, ⟨by omega, h3'⟩, ⟨h2, h2'⟩, by omega⟩)
            case' rg26_11b =>
             simp only [Zp, Zq, Zr, Zs]
             refine WpG.oneD 17 (some 20) rfl rfl (by kernel_rfl) (fun b : Nat => Value.pointer (some ⟨b, 0, none⟩)) (fun b wz => ya + 1 ≤ b ∧ V2 wz b (.int .u64 0) (.int .u64 0)) (fun _ _ _ h hb => ⟨h.1, h.2.call hb⟩) (Fresh.var [.int .u64 0, .int .u64 0] 36 rfl (fun wz hwz => (hwz.2).2.lt) (fun wz hwz => by go_simp; try (with_reducible rfl)) (R := fun b wz => V2 wz b (.int .u64 0) (.int .u64 0)) (fun wz hwz => V2.new wz _ _ _)) (fun xa w0xa hw0xa hR0xa => ?_)
             simp only [Zp, Zq, Zr, Zs]
             refine WpG.done (by kernel_rfl) (fun w6 hS => ⟨xa, ya, rfl, ?_⟩)
             ·(obtain ⟨⟨h1, h2, h2'⟩, h3, h3'⟩ := hS; first | exact ⟨h1, ⟨h2, h2'⟩, ⟨by omega, h3'⟩, by omega⟩ | exact ⟨h1, ⟨by omega, h3'⟩, ⟨h2, h2'⟩, by omega⟩)
           intro xa ya w6 hS
           (try simp only [List.drop_succ_cons]); (try simp only [List.drop_zero]); (try simp only [Nat.reduceSub]); (try simp only [List.take_succ_cons]); (try simp only [List.take_zero])
           obtain ⟨hb6, ⟨hxa, xa0⟩, ⟨hya, ya0⟩, hxy⟩ := hS
           clear p00 p01 p02 p03 p04
           clear c0 c1 d0 d1 g5 HX HY
           have hpb5 : pb < w5.heap.size := p0.lt
           have hga6 : xa < w6.heap.size := xa0.lt
           replace hb00 := bl_call hb00 (Nat.le_refl _) hb6
           replace q0 := q0.call hb6
           replace HR := HR.call hb6
           replace HP := HP.call hb6
           replace p0 := p0.call hb6
           clear hb6 p0
           obtain ⟨xa00, xa01, xa02, xa03, xa04⟩ := V2.mk xa0.c0 xa0.c1 xa0.f0 xa0.f1 xa0.lt
           obtain ⟨ya00, ya01, ya02, ya03, ya04⟩ := V2.mk ya0.c0 ya0.c1 ya0.f0 ya0.f1 ya0.lt
           go_upto_region 27 with fail
           clear xa00 xa01 xa02 xa03 xa04 ya00 ya01 ya02 ya03 ya04
           obtain ⟨yp, hyp⟩ : ∃ z, y * p = z := ⟨_, rfl⟩
           rw [hyp] at HSET
           simp only [hyp]
           clear hyp
           replace xa0 : V2 ((w6.setCell ⟨xa, 0, none⟩ (.int .u64 (lo x))).setCell ⟨xa, 1, none⟩ (.int .u64 (hi x))) (xa) (.int .u64 (lo x)) (.int .u64 (hi x)) := V2.set xa0 _ _
           replace ya0 := V2.oth ya0 (b := xa) (by omega) (.int .u64 (lo x)) (.int .u64 (hi x))
           replace q0 := V2.oth q0 (b := xa) (by omega) (.int .u64 (lo x)) (.int .u64 (hi x))
           replace HR := (HR.far (p := ⟨xa, 0, none⟩) (by dsimp only; omega) (.int .u64 (lo x))).far (p := ⟨xa, 1, none⟩) (by dsimp only; omega) (.int .u64 (hi x))
           replace HP := (HP.far (p := ⟨xa, 0, none⟩) (by dsimp only; omega) (.int .u64 (lo x))).far (p := ⟨xa, 1, none⟩) (by dsimp only; omega) (.int .u64 (hi x))
           replace hb00 := bl_st hb00 (b := xa) (by omega) (.int .u64 (lo x)) (.int .u64 (hi x))
           replace xa0 := V2.oth xa0 (b := ya) (by omega) (.int .u64 (lo yp)) (.int .u64 (hi yp))
           replace ya0 : V2 ((((w6.setCell ⟨xa, 0, none⟩ (.int .u64 (lo x))).setCell ⟨xa, 1, none⟩ (.int .u64 (hi x))).setCell ⟨ya, 0, none⟩ (.int .u64 (lo yp))).setCell ⟨ya, 1, none⟩ (.int .u64 (hi yp))) (ya) (.int .u64 (lo yp)) (.int .u64 (hi yp)) := V2.set ya0 _ _
           replace q0 := V2.oth q0 (b := ya) (by omega) (.int .u64 (lo yp)) (.int .u64 (hi yp))
           replace HR := (HR.far (p := ⟨ya, 0, none⟩) (by dsimp only; omega) (.int .u64 (lo yp))).far (p := ⟨ya, 1, none⟩) (by dsimp only; omega) (.int .u64 (hi yp))
           replace HP := (HP.far (p := ⟨ya, 0, none⟩) (by dsimp only; omega) (.int .u64 (lo yp))).far (p := ⟨ya, 1, none⟩) (by dsimp only; omega) (.int .u64 (hi yp))
           replace hb00 := bl_st hb00 (b := ya) (by omega) (.int .u64 (lo yp)) (.int .u64 (hi yp))
           generalize ((((w6.setCell ⟨xa, 0, none⟩ (.int .u64 (lo x))).setCell ⟨xa, 1, none⟩ (.int .u64 (hi x))).setCell ⟨ya, 0, none⟩ (.int .u64 (lo yp))).setCell ⟨ya, 1, none⟩ (.int .u64 (hi yp))) = w7 at xa0 ya0 q0 hb00 HR HP ⊢
           obtain ⟨S0, hS0⟩ : ∃ l, ofF k (mid a r s j B i) = l := ⟨_, rfl⟩
           rw [hS0] at HR HSET
           have hlen : S0.length = k := by rw [← hS0, ofF_length]
           have HSR : RunS w r x yp xa ya gp (pows z h) g S0 w7.drew := ⟨⟨hb00.drew, q0.drew, xa0.drew, ya0.drew, HP.drew⟩, HR.drew⟩
           have HS0 := Lib.hid hS0
           have HLN := Lib.hid hlen
           have hgx : g ≠ xa := by omega
           have hgy : g ≠ ya := by omega
           have hgg : g ≠ gp := by omega
           have HST2 : Hid (∀ wz, RunS w r x yp xa ya gp (pows z h) g S0 wz → RunS w r x yp xa ya gp (pows z h) g (S0.set q1 (x + yp)) ((wz.setCell ⟨g, q1 * 2, none⟩ (.int .u64 (lo (x + yp)))).setCell ⟨g, q1 * 2 + 1, none⟩ (.int .u64 (hi (x + yp))))) := fun wz h => h.store q1 (by omega) _ (by omega) hgx hgy hgg
           have HRA : Hid (∀ wz (l : KL f) q, l.length = k → q < k → RwK wz g l → ∃ u v : Value, wz.cell? ⟨g, q * 2, none⟩ = some u ∧ wz.cell? ⟨g, q * 2 + 1, none⟩ = some v ∧ wz.frozen? ⟨g, q * 2, none⟩ = false ∧ wz.frozen? ⟨g, q * 2 + 1, none⟩ = false ∧ g < wz.heap.size) := fun wz l q h1 h2 h3 => by
            obtain ⟨a1, a2⟩ := h3.at (List.getElem?_eq_getElem (i := q) (by omega))
            obtain ⟨a3, a4⟩ := h3.frz (i := q) (by omega)
            exact ⟨_, _, a1, a2, a3, a4, h3.lt⟩
           clear hS0 hlen HR HP q0 hb00 xa0 ya0
           refine region_X (RunT w r x yp xa ya gp (pows z h)) (RunS w r x yp xa ya gp (pows z h) g S0) (fun _ h => h.t) (RunS.clo _ _ _ _ _ _ _ _ _ _) HSR (n := 20) (m := 22) (f := 20) (by kernel_rfl) (by kernel_rfl) rfl ?_
           refine WpX.vD 0 (some 97) ?_ rfl rfl (by kernel_rfl) (fun _ _ _ h => h) rfl (fun wz hwz => ?_) ?_
           rotate_left
           ·go_simp; try (with_reducible rfl)
           simp only [Zp, Zq, Zr, Zs]
           refine WpX.vD 1 (some 98) ?_ rfl rfl (by kernel_rfl) (fun _ _ _ h => h) rfl (fun wz hwz => ?_) ?_
           rotate_left
           ·go_simp; try (with_reducible rfl)
           simp only [Zp, Zq, Zr, Zs]
           refine WpX.vD 2 (some 99) ?_ rfl rfl (by kernel_rfl) (fun _ _ _ h => h) rfl (fun wz hwz => ?_) ?_
           rotate_left
           ·go_simp; try (with_reducible rfl)
           simp only [Zp, Zq, Zr, Zs]
           refine WpX.vD 3 (some 100) ?_ rfl rfl (by kernel_rfl) (fun _ _ _ h => h) rfl (fun wz hwz => ?_) ?_
           rotate_left
           ·go_simp; try (with_reducible rfl)
           simp only [Zp, Zq, Zr, Zs]
           refine WpX.vD 4 (some 101) ?_ rfl rfl (by kernel_rfl) (fun _ _ _ h => h) rfl (fun wz hwz => ?_) ?_
           rotate_left
           ·go_simp; try (with_reducible rfl)
           simp only [Zp, Zq, Zr, Zs]
           refine WpX.vD 5 (some 102) ?_ rfl rfl (by kernel_rfl) (fun _ _ _ h => h) rfl (fun wz hwz => ?_) ?_
           rotate_left
           ·go_simp; try (with_reducible rfl)
           simp only [Zp, Zq, Zr, Zs]
           refine WpX.vD 6 (some 103) ?_ rfl rfl (by kernel_rfl) (fun _ _ _ h => h) rfl (fun wz hwz => ?_) ?_
           rotate_left
           ·go_simp; try (with_reducible rfl)
           simp only [Zp, Zq, Zr, Zs]
           refine WpX.vD 7 (some 104) ?_ rfl rfl (by kernel_rfl) (fun _ _ _ h => h) rfl (fun wz hwz => ?_) ?_
           rotate_left
           ·go_simp; try (with_reducible rfl)
           simp only [Zp, Zq, Zr, Zs]
           refine WpX.vD 8 (some 105) ?_ rfl rfl (by kernel_rfl) (fun _ _ _ h => h) rfl (fun wz hwz => ?_) ?_
           rotate_left
           ·go_simp; try (with_reducible rfl)
           simp only [Zp, Zq, Zr, Zs]
           refine WpX.vD 9 (some 106) ?_ rfl rfl (by kernel_rfl) (fun _ _ _ h => h) rfl (fun wz hwz => ?_) ?_
           rotate_left
           ·go_simp; try (with_reducible rfl)
           simp only [Zp, Zq, Zr, Zs]
           refine WpX.vD 10 (some 107) ?_ rfl rfl (by kernel_rfl) (fun _ _ _ h => h) rfl (fun wz hwz => ?_) ?_
           rotate_left
           ·go_simp; try (with_reducible rfl)
           simp only [Zp, Zq, Zr, Zs]
           refine WpX.vD 11 (some 108) ?_ rfl rfl (by kernel_rfl) (fun _ _ _ h => h) rfl (fun wz hwz => ?_) ?_
           rotate_left
           ·(obtain ⟨z0, z1, z2, z3, z4⟩ := V2.mk hwz.vx.c0 hwz.vx.c1 hwz.vx.f0 hwz.vx.f1 hwz.vx.lt; go_simp; try (with_reducible rfl))
           simp only [Zp, Zq, Zr, Zs]
           refine WpX.vD 12 (some 109) ?_ rfl rfl (by kernel_rfl) (fun _ _ _ h => h) rfl (fun wz hwz => ?_) ?_
           rotate_left
           ·(obtain ⟨z0, z1, z2, z3, z4⟩ := V2.mk hwz.vy.c0 hwz.vy.c1 hwz.vy.f0 hwz.vy.f1 hwz.vy.lt; go_simp; try (with_reducible rfl))
           simp only [Zp, Zq, Zr, Zs]
           refine WpX.takeD 13 (some 110) rfl rfl (by kernel_rfl) (fun _ _ _ h => h) (.call rfl (fun wz hwz => HADD.out x yp wz) (fun wz hwz => ?_)) ?_
           ·go_simp; try (with_reducible rfl)
           simp only [Zp, Zq, Zr, Zs]
           refine WpX.vD 14 (some 111) ?_ rfl rfl (by kernel_rfl) (fun _ _ _ h => h) rfl (fun wz hwz => ?_) ?_
           rotate_left
           ·go_simp; try (with_reducible rfl)
           simp only [Zp, Zq, Zr, Zs]
           refine WpX.vD 15 (some 112) ?_ rfl rfl (by kernel_rfl) (fun _ _ _ h => h) rfl (fun wz hwz => ?_) ?_
           rotate_left
           ·(obtain ⟨z0, z1, z2, z3, z4⟩ := V2.mk hwz.vx.c0 hwz.vx.c1 hwz.vx.f0 hwz.vx.f1 hwz.vx.lt; go_simp; try (with_reducible rfl))
           simp only [Zp, Zq, Zr, Zs]
           refine WpX.vD 16 (some 113) ?_ rfl rfl (by kernel_rfl) (fun _ _ _ h => h) rfl (fun wz hwz => ?_) ?_
           rotate_left
           ·(obtain ⟨z0, z1, z2, z3, z4⟩ := V2.mk hwz.vy.c0 hwz.vy.c1 hwz.vy.f0 hwz.vy.f1 hwz.vy.lt; go_simp; try (with_reducible rfl))
           simp only [Zp, Zq, Zr, Zs]
           refine WpX.takeD 17 (some 114) rfl rfl (by kernel_rfl) (fun _ _ _ h => h) (.call rfl (fun wz hwz => HSUB.out x yp wz) (fun wz hwz => ?_)) ?_
           ·go_simp; try (with_reducible rfl)
           simp only [Zp, Zq, Zr, Zs]
           refine WpX.vD 18 (some 115) ?_ rfl rfl (by kernel_rfl) (fun _ _ _ h => h) rfl (fun wz hwz => ?_) ?_
           rotate_left
           ·go_simp; try (with_reducible rfl)
           simp only [Zp, Zq, Zr, Zs]
           refine WpX.oneSkip 19 none rfl rfl (by kernel_rfl) (RunT w r x yp xa ya gp (pows z h)) (RunS w r x yp xa ya gp (pows z h) g (S0.set q1 (x + yp))) (fun _ h => h) (fun _ h => h.t) (RunS.clo _ _ _ _ _ _ _ _ _ _) rfl (fun wz hS => ?_) ?_
           ·(obtain ⟨u, v, z0, z1, z2, z3, z4⟩ := HRA.out wz S0 q1 HLN.out hq1k hS.rw; refine ⟨_, ?_, HST2.out wz hS⟩; go_simp; try (with_reducible rfl))
           simp only [Act.put]
           refine WpX.done (by kernel_rfl) (fun w8 hS => ?_)
           (try simp only [List.drop_succ_cons]); (try simp only [List.drop_zero]); (try simp only [Nat.reduceSub]); (try simp only [List.take_succ_cons]); (try simp only [List.take_zero])
           obtain ⟨⟨hb00, q0, _, _, HP⟩, HR⟩ := hS
           obtain ⟨u8, v8, d0, d1, f2, f3, g5⟩ := HRA.out w8 _ q2 (by rw [List.length_set]; exact HLN.out) hq2k HR
           clear HRA HST2 HSR
           go_wp2_with fail
           go_roundw
           case rel =>
            have h := HR.set q2 (by rw [List.length_set, HLN.out]; omega) (x - yp)
            rw [HSET.out] at h
            exact ⟨i + 1, by omega, by go_num, h, (HP.far (by dsimp only; omega) _).far (by dsimp only; omega) _, V2.setOther (V2.setOther q0 (by dsimp only; omega) _) (by dsimp only; omega) _, bl_set (bl_set hb00 (by dsimp only; omega) _) (by dsimp only; omega) _⟩
           case measure => simp [intOf]; omega
          ·obtain rfl : i = h := by omega
           rw [HM4s.out] at HR
           obtain ⟨A1, hA1⟩ : ∃ A1, (B + 1) * (2 * i) = A1 := ⟨_, rfl⟩
           have HA1 := Lib.hid hA1
           have hA8 : A1 = A0 + 2 * i := by rw [← hA1, HBS.out]
           have hA9 : (A0 : Int) + 2 * (i : Int) = (A1 : Int) := by omega
           have hA7 : A0 < A1 := by omega
           have hA6 : A1 ≤ k := by omega
           clear hA1 hA8
           go_wp2_with fail
           go_roundw
           case rel => exact ⟨B + 1, by omega, by rw [HA1.out], HR, HP, q0, hb00⟩
           case measure => simp [intOf]; omega
        ·obtain rfl : B = m := by omega
         have hA9 : B * (2 * h) = k := HP2.out
         rw [hA9]
         rw [HM5s.out] at HR
         go_wp2_with fail
         go_roundw
         case rel => exact ⟨s + 1, by omega, by go_num, by rw [show L - (s + 1) = j by have := HST.out; omega]; exact HR, q0, hb00, HR.lt⟩
         case measure => simp [intOf]; omega
    ·obtain rfl : s = L := by omega
     have t2 : decide ((s : Int) + 1 ≤ (s : Int)) = false := by simp; omega
     rw [Nat.sub_self, ← HN.out] at HR
     rw [HVAL.out] at HR
     go_wp2_with fail
     go_ret
     rw [← HN.out]
     exact ⟨g, by rw [HRV.out]; rfl, HR, by omega, hb00⟩
end

end Go.Proofs.YtfbfbijkkbflkaaGreatDoor

namespace Go.Proofs.YtfbfbijkkbflkaaGreatDoor
open Go.RowKit Fm
set_option linter.unusedVariables false
set_option maxRecDepth 100000

def RetE9 (n : Int) (w : World) (e : Ending) (w' : World) : Prop := e = .returned (.tuple #[.slice none 0 0, .int .i64 n]) ∧ Below w.heap.size w w'

section
variable {f : Nat} (hf : IsF f)
include hf
theorem field_ValidT (w : World) : Calls Tryz.prog 73 #[.int .u8 f] w fun e w' => e = .returned (.bool true) ∧ w = w' := by
 refine (field_Valid f w).mono fun e w' ⟨he, hw⟩ => ⟨?_, hw⟩
 rw [he]
 rcases hf.or with rfl | rfl <;> rfl

set_option maxHeartbeats 4000000 in
theorem ntt_Values (L : Nat) (hL : L ≤ 10) (vl : Value) (l : KL f) (hl : l.length = 2 ^ L) (w : World) (hT : TabW w) (hs : SlK w w.heap.size vl l) :
  Calls Tryz.prog 137 #[.int .u8 f, vl] w (RetBlk0 (valsK L l) w) := by
 have HV := Lib.hid (fun wz => field_ValidT hf wz)
 have HLG := Lib.hid (fun wz (h : TabW wz) => ntt_Log_ok L hL wz h)
 have HRT := Lib.hid (fun wz => field_Root hf L (by omega) wz)
 have HRUN : Hid (∀ v wz, SlK wz wz.heap.size v l → Calls Tryz.prog 82 #[.int .u8 f, v, vK (rootK f L), .int .i64 L] wz (RetBlk (valsK L l) wz)) := fun v wz h => ntt_run hf L hL v l hl (rootK f L) (rt_root f L (by omega)) wz h
 have H0 := Lib.hid hs
 have hfb0 : (1 : Int) ≤ (f : Int) := by rcases hf.or with rfl | rfl <;> omega
 have hfb1 : (f : Int) ≤ 2 := by rcases hf.or with rfl | rfl <;> omega
 obtain ⟨A, c, rfl, hc, hcm, hA⟩ := hs
 have hp : 2 ^ L ≤ 2 ^ 10 := Nat.pow_le_pow_right (by omega) hL
 rw [hl] at hc H0 ⊢
 have HVL := Lib.hid (valsK_length (f := f) L l)
 clear hA hl
 generalize valsK L l = vv at *
 generalize rootK f L = r at *
 generalize 2 ^ L = n at *
 have hb00 : Below w.heap.size w w := Below.refl _ _
 go_enter Tryz.func137, Tryz.ntmps137
 go_wp2_with fail
 refine (HV.out _).mono ?_
 rintro e w' ⟨rfl, rfl⟩
 go_wp2_with fail
 refine (HLG.out _ hT).mono ?_
 rintro e w' ⟨rfl, rfl⟩
 go_wp2_with fail
 refine (HRT.out _).mono ?_
 rintro e w1 ⟨rfl, hb1⟩
 replace hb00 := bl_call hb00 (Nat.le_refl _) hb1
 clear hb1
 go_upto_region 7 with fail
 have r0 := V2.new w1 (.int .u64 (lo r)) (.int .u64 (hi r)) 36
 have hbA : Below w1.heap.size w1 (w1.alloc (.cells #[.int .u64 (lo r), .int .u64 (hi r)] 36)) := by repeat (first | exact bA | with_reducible assumption | apply bB)
 replace hb00 := bl_call hb00 (Nat.le_refl _) hbA
 clear hbA
 generalize w1.alloc (.cells #[.int .u64 (lo r), .int .u64 (hi r)] 36) = w2 at hb00 r0 ⊢
 obtain ⟨r00, r01, r02, r03, r04⟩ := V2.mk r0.c0 r0.c1 r0.f0 r0.f1 r0.lt
 go_wp2_with fail
 refine (HRUN.out _ _ (H0.out.later hb00)).mono ?_
 rintro e w3 ⟨g, rfl, hR, hg, hb3⟩
 have hg2 := Nat.le_trans hb00.size hg
 replace hb00 := bl_call hb00 (Nat.le_refl _) hb3
 replace r0 := r0.call hb3
 go_wp2_with fail
 go_ret2
 exact ⟨g, rfl, hR, hg2, hb00⟩

set_option maxHeartbeats 8000000 in
theorem ntt_Coefs (L : Nat) (hL : L ≤ 10) (vl : Value) (l : KL f) (hl : l.length = 2 ^ L) (w : World) (hT : TabW w) (hs : SlK w w.heap.size vl l) :
  Calls Tryz.prog 35 #[.int .u8 f, vl] w (RetBlk0 (coefsK L l) w) := by
 have HV := Lib.hid (fun wz => field_ValidT hf wz)
 have HLG := Lib.hid (fun wz (h : TabW wz) => ntt_Log_ok L hL wz h)
 have HRT := Lib.hid (fun wz => field_Root hf L (by omega) wz)
 have hrt := rt_root f L (by omega)
 have hp : 2 ^ L ≤ 2 ^ 10 := Nat.pow_le_pow_right (by omega) hL
 have hp0 := Nat.two_pow_pos L
 have hnn : nn f (2 ^ L) ≠ 0 := nn_ne f _ hp0 (two_pow_lt (by omega))
 have HI1 : Hid (∀ wz, Calls Tryz.prog 76 #[.int .u8 f, vK (rootK f L)] wz fun e w' => e = .returned (.tuple #[vK (Fm.kinv (rootK f L)), .int .i64 0]) ∧ Below wz.heap.size wz w') := fun wz => (field_Inv hf (rootK f L) wz).mono fun e w' h => by
  rcases h with ⟨h0, _⟩ | ⟨_, h1, h2⟩
  ·exact absurd h0 hrt.ne_zero
  ·rw [kinv_fm] at h1
   exact ⟨h1, h2⟩
 have HI2 : Hid (∀ wz, Calls Tryz.prog 76 #[.int .u8 f, vK (nn f (2 ^ L))] wz fun e w' => e = .returned (.tuple #[vK (Fm.kinv (nn f (2 ^ L))), .int .i64 0]) ∧ Below wz.heap.size wz w') := fun wz => (field_Inv hf (nn f (2 ^ L)) wz).mono fun e w' h => by
  rcases h with ⟨h0, _⟩ | ⟨_, h1, h2⟩
  ·exact absurd h0 hnn
  ·rw [kinv_fm] at h1
   exact ⟨h1, h2⟩
 have HOF : Hid (∀ wz, Calls Tryz.prog 52 #[.int .u8 f, .int .u64 ((2 ^ L : Nat) : Int)] wz (RetK (nn f (2 ^ L)) wz)) := fun wz => by
  rw [nn_nK]
  exact field_Of hf _ wz (by omega) (by omega)
 have HRUN : Hid (∀ v wz, SlK wz wz.heap.size v l → Calls Tryz.prog 82 #[.int .u8 f, v, vK (Fm.kinv (rootK f L)), .int .i64 L] wz (RetBlk (vals (Fm.kinv (rootK f L)) (2 ^ L) l) wz)) := fun v wz h => ntt_run hf L hL v l hl _ (hrt.inv (mul_kinv _ hrt.ne_zero)) wz h
 have HMU := Lib.hid (fun x y wz => field_MulK hf x y wz)
 have HVL : Hid ((vals (Fm.kinv (rootK f L)) (2 ^ L) l).length = 2 ^ L) := ofF_length ..
 have HCL := Lib.hid (coefsK_length (f := f) L l)
 have HCV : Hid (∀ k, k < 2 ^ L → (coefsK L l)[k]? = ((vals (Fm.kinv (rootK f L)) (2 ^ L) l)[k]?).map (· * Fm.kinv (nn f (2 ^ L)))) := fun k hk => by
  unfold coefsK coefs vals ofF
  rw [List.getElem?_map, List.getElem?_map, List.getElem?_range hk]
  rfl
 have H0 := Lib.hid hs
 have hfb0 : (1 : Int) ≤ (f : Int) := by rcases hf.or with rfl | rfl <;> omega
 have hfb1 : (f : Int) ≤ 2 := by rcases hf.or with rfl | rfl <;> omega
 obtain ⟨A, c, rfl, hc, hcm, hA⟩ := hs
 rw [hl] at hc H0 ⊢
 have hcu : IntKind.u64.wrap ((2 ^ L : Nat) : Int) = ((2 ^ L : Nat) : Int) := IntWalk.u64_in _ (by omega)
 clear hA hl hrt hnn
 generalize coefsK L l = cc at *
 generalize vals (Fm.kinv (rootK f L)) (2 ^ L) l = vv at *
 generalize Fm.kinv (nn f (2 ^ L)) = ni at *
 generalize nn f (2 ^ L) = nx at *
 generalize Fm.kinv (rootK f L) = ri at *
 generalize rootK f L = r at *
 generalize 2 ^ L = n at *
 have hb00 : Below w.heap.size w w := Below.refl _ _
 go_enter Tryz.func35, Tryz.ntmps35
 go_wp2_with fail
 refine (HV.out _).mono ?_
 rintro e w' ⟨rfl, rfl⟩
 go_wp2_with fail
 refine (HLG.out _ hT).mono ?_
 rintro e w' ⟨rfl, rfl⟩
 go_wp2_with fail
 refine (HRT.out _).mono ?_
 rintro e w1 ⟨rfl, hb1⟩
 replace hb00 := bl_call hb00 (Nat.le_refl _) hb1
 clear hb1
 go_upto_region 7 with fail
 have r0 := V2.new w1 (.int .u64 (lo r)) (.int .u64 (hi r)) 36
 have hbA : Below w1.heap.size w1 (w1.alloc (.cells #[.int .u64 (lo r), .int .u64 (hi r)] 36)) := by repeat (first | exact bA | with_reducible assumption | apply bB)
 replace hb00 := bl_call hb00 (Nat.le_refl _) hbA
 clear hbA
 generalize w1.alloc (.cells #[.int .u64 (lo r), .int .u64 (hi r)] 36) = w2 at hb00 r0 ⊢
 obtain ⟨r00, r01, r02, r03, r04⟩ := V2.mk r0.c0 r0.c1 r0.f0 r0.f1 r0.lt
 go_wp2_with fail
 refine (HI1.out _).mono ?_
 rintro e w3 ⟨rfl, hb3⟩
 clear r00 r01 r02 r03 r04
 clear r0
 replace hb00 := bl_call hb00 (Nat.le_refl _) hb3
 clear hb3
 go_upto_region 10 with fail
 have r0 := V2.new w3 (.int .u64 (lo ri)) (.int .u64 (hi ri)) 36
 have hbA : Below w3.heap.size w3 (w3.alloc (.cells #[.int .u64 (lo ri), .int .u64 (hi ri)] 36)) := by repeat (first | exact bA | with_reducible assumption | apply bB)
 replace hb00 := bl_call hb00 (Nat.le_refl _) hbA
 clear hbA
 generalize w3.alloc (.cells #[.int .u64 (lo ri), .int .u64 (hi ri)] 36) = w4 at hb00 r0 ⊢
 obtain ⟨rb, hrb⟩ : ∃ z, w3.heap.size = z := ⟨_, rfl⟩
 rw [hrb] at r0
 simp only [hrb]
 clear hrb
 go_wp2_with fail
 refine (HOF.out _).mono ?_
 rintro e w5 ⟨rfl, hb5⟩
 replace hb00 := bl_call hb00 (Nat.le_refl _) hb5
 replace r0 := r0.call hb5
 clear hb5
 go_wp2_with fail
 refine (HI2.out _).mono ?_
 rintro e w6 ⟨rfl, hb6⟩
 replace hb00 := bl_call hb00 (Nat.le_refl _) hb6
 replace r0 := r0.call hb6
 clear hb6
 go_upto_region 13 with fail
 have n0 := V2.new w6 (.int .u64 (lo ni)) (.int .u64 (hi ni)) 36
 have hbA : Below w6.heap.size w6 (w6.alloc (.cells #[.int .u64 (lo ni), .int .u64 (hi ni)] 36)) := by repeat (first | exact bA | with_reducible assumption | apply bB)
 replace hb00 := bl_call hb00 (Nat.le_refl _) hbA
 replace r0 := r0.call hbA
 clear hbA
 generalize w6.alloc (.cells #[.int .u64 (lo ni), .int .u64 (hi ni)] 36) = w7 at hb00 r0 n0 ⊢
 obtain ⟨nb, hnb⟩ : ∃ z, w6.heap.size = z := ⟨_, rfl⟩
 rw [hnb] at n0
 simp only [hnb]
 clear hnb
 obtain ⟨r00, r01, r02, r03, r04⟩ := V2.mk r0.c0 r0.c1 r0.f0 r0.f1 r0.lt
 go_wp2_with fail
 refine (HRUN.out _ _ (H0.out.later hb00)).mono ?_
 rintro e w8 ⟨g, rfl, hR, hg, hb8⟩
 have hg2 := Nat.le_trans hb00.size hg
 have hng : nb < g := Nat.lt_of_lt_of_le n0.lt hg
 clear r00 r01 r02 r03 r04
 clear r0
 replace hb00 := bl_call hb00 (Nat.le_refl _) hb8
 replace n0 := n0.call hb8
 clear hb8 hg
 rw [HVL.out]
 obtain ⟨S, hS⟩ : ∃ S : KL f, S = vv := ⟨_, rfl⟩
 have HS : Hid (S.length = n ∧ (∀ i, i < 0 → S[i]? = cc[i]?) ∧ ∀ i, 0 ≤ i → S[i]? = vv[i]?) := by rw [hS]; exact ⟨HVL.out, fun i h => absurd h (Nat.not_lt_zero i), fun _ _ => rfl⟩
 rw [← hS] at hR
 clear hS
 go_wp2_with fail
 go_loopw [63] (fun iv wr => ∃ (k : Nat) (S : KL f), k ≤ n ∧ iv = .int .i64 k ∧ RwK wr g S ∧ Hid (S.length = n ∧ (∀ i, i < k → S[i]? = cc[i]?) ∧ ∀ i, k ≤ i → S[i]? = vv[i]?) ∧ V2 wr nb (.int .u64 (lo ni)) (.int .u64 (hi ni)) ∧ Below w.heap.size w wr) (fun iv _ => n - (intOf iv).toNat)
 case atStart => exact ⟨0, S, Nat.zero_le _, rfl, hR, HS, n0, hb00⟩
 case round =>
  clear hR HS n0 hb00 S
  obtain ⟨k, S, hk, rfl, hR, HS, n0, hb00⟩ := hrel
  by_cases hlt : k < n
  ·obtain ⟨x, hx⟩ : ∃ x, S[k]? = some x := ⟨_, List.getElem?_eq_getElem (by have := HS.out.1; omega)⟩
   obtain ⟨c0, c1⟩ := hR.at hx
   have hxv : vv[k]? = some x := by rw [← HS.out.2.2 k (Nat.le_refl _), hx]
   have HXC : Hid (cc[k]? = some (x * ni)) := by show _ = _; rw [HCV.out k hlt, hxv]; rfl
   have g1 : (0 : Int) ≤ (k : Int) := by omega
   have g2 : (k : Int) < (n : Int) := by omega
   have g5 := hR.lt
   clear hx hxv
   obtain ⟨n00, n01, n02, n03, n04⟩ := V2.mk n0.c0 n0.c1 n0.f0 n0.f1 n0.lt
   go_upto_region 19 with fail
   refine region_B (n := 9) (m := 11) (f := 9) (by kernel_rfl) (by kernel_rfl) rfl ?_
   refine WpH.vD 0 (some 66) ?_ rfl rfl (by kernel_rfl) (fun _ _ _ h => h) rfl (fun wz hwz => ?_) ?_
   rotate_left
   ·go_simp; try (with_reducible rfl)
   simp only [Zp, Zq, Zr, Zs]
   refine WpH.vD 1 (some 67) ?_ rfl rfl (by kernel_rfl) (fun _ _ _ h => h) rfl (fun wz hwz => ?_) ?_
   rotate_left
   ·go_simp; try (with_reducible rfl)
   simp only [Zp, Zq, Zr, Zs]
   refine WpH.vD 2 (some 68) ?_ rfl rfl (by kernel_rfl) (fun _ _ _ h => h) rfl (fun wz hwz => ?_) ?_
   rotate_left
   ·go_simp; try (with_reducible rfl)
   simp only [Zp, Zq, Zr, Zs]
   refine WpH.vD 3 (some 69) ?_ rfl rfl (by kernel_rfl) (fun _ _ _ h => h) rfl (fun wz hwz => ?_) ?_
   rotate_left
   ·go_simp; try (with_reducible rfl)
   simp only [Zp, Zq, Zr, Zs]
   refine WpH.vD 4 (some 70) ?_ rfl rfl (by kernel_rfl) (fun _ _ _ h => h) rfl (fun wz hwz => ?_) ?_
   rotate_left
   ·go_simp; try (with_reducible rfl)
   simp only [Zp, Zq, Zr, Zs]
   refine WpH.vD 5 (some 71) ?_ rfl rfl (by kernel_rfl) (fun _ _ _ h => h) rfl (fun wz hwz => ?_) ?_
   rotate_left
   ·go_simp; try (with_reducible rfl)
   simp only [Zp, Zq, Zr, Zs]
   refine WpH.vD 6 (some 72) ?_ rfl rfl (by kernel_rfl) (fun _ _ _ h => h) rfl (fun wz hwz => ?_) ?_
   rotate_left
   ·(obtain ⟨hcz, hfz⟩ := bcell hwz; go_simp; try (with_reducible rfl))
   simp only [Zp, Zq, Zr, Zs]
   refine WpH.vD 7 (some 73) ?_ rfl rfl (by kernel_rfl) (fun _ _ _ h => h) rfl (fun wz hwz => ?_) ?_
   rotate_left
   ·(obtain ⟨hcz, hfz⟩ := bcell hwz; go_simp; try (with_reducible rfl))
   simp only [Zp, Zq, Zr, Zs]
   refine WpH.takeD 8 (some 74) rfl rfl (by kernel_rfl) (fun _ _ _ h => h) (.call rfl (fun wz hwz => HMU.out x ni wz) (fun wz hwz => ?_)) ?_
   ·go_simp; try (with_reducible rfl)
   simp only [Zp, Zq, Zr, Zs]
   refine WpH.doneB (by kernel_rfl) (fun w9 hw9 => ?_)
   (try simp only [List.drop_succ_cons]); (try simp only [List.drop_zero]); (try simp only [Nat.reduceSub]); (try simp only [List.take_succ_cons]); (try simp only [List.take_zero])
   clear n00 n01 n02 n03 n04
   clear c0 c1 g5
   replace hb00 := bl_call hb00 (Nat.le_refl _) hw9
   replace n0 := n0.call hw9
   replace hR := hR.call hw9
   clear hw9
   obtain ⟨x9, hx9⟩ : ∃ x, S[k]? = some x := ⟨_, List.getElem?_eq_getElem (by have := HS.out.1; omega)⟩
   obtain ⟨c0, c1⟩ := hR.at hx9
   obtain ⟨f0, f1⟩ := hR.frz (i := k) (by have := HS.out.1; omega)
   have g5 := hR.lt
   clear hx9
   go_wp2_with fail
   go_roundw
   case rel =>
    have HL := HS.out.1
    refine ⟨k + 1, _, by omega, by go_num, hR.set k (by omega) (x * ni), ⟨by rw [List.length_set]; exact HL, fun i hik => ?_, fun i hik => ?_⟩, V2.setOther (V2.setOther n0 (by dsimp only; omega) _) (by dsimp only; omega) _, by repeat (first | exact bA | with_reducible assumption | apply bB | (refine bC ?_ (by dsimp only; omega)) | apply bD | apply bE | (refine bF ?_ (by assumption)))⟩
    ·by_cases he : k = i
     ·subst he
      rw [List.getElem?_set_self (by omega), HXC.out]
     ·rw [List.getElem?_set_ne he]
      exact HS.out.2.1 i (by omega)
    ·rw [List.getElem?_set_ne (by omega)]
     exact HS.out.2.2 i (by omega)
   case measure => simp [intOf]; omega
  ·obtain rfl : k = n := by omega
   have hSc : S = cc := List.ext_getElem? fun i => by
    by_cases hik : i < k
    ·exact HS.out.2.1 i hik
    ·rw [List.getElem?_eq_none (by have := HS.out.1; omega), List.getElem?_eq_none (by rw [HCL.out]; omega)]
   subst hSc
   have HRR := Lib.hid hR
   clear hR HS
   go_wp2
   go_ret2
   exact ⟨g, by rw [HCL.out]; rfl, HRR.out, hg2, hb00⟩

set_option maxHeartbeats 4000000 in
theorem ntt_Points (L : Nat) (hL : L ≤ 10) (w : World) :
  Calls Tryz.prog 31 #[.int .u8 f, .int .i64 L] w (RetOwn0 (pows (rootK f L) (2 ^ L)) w) := by
 have HV := Lib.hid (fun wz => field_ValidT hf wz)
 have HRT := Lib.hid (fun wz => field_Root hf L (by omega) wz)
 have hp : 2 ^ L ≤ 2 ^ 10 := Nat.pow_le_pow_right (by omega) hL
 have hp0 := Nat.two_pow_pos L
 have HPW : Hid (∀ wz, Calls Tryz.prog 75 #[.int .u8 f, vK (rootK f L), .int .i64 ((2 : Int) ^ L)] wz (RetOwn (pows (rootK f L) (2 ^ L)) wz)) := fun wz => by
  have h := field_Powers hf (rootK f L) (2 ^ L) (by omega) wz
  rwa [show ((2 ^ L : Nat) : Int) = (2 : Int) ^ L by rw [Int.natCast_pow]; rfl] at h
 have hfb0 : (1 : Int) ≤ (f : Int) := by rcases hf.or with rfl | rfl <;> omega
 have hfb1 : (f : Int) ≤ 2 := by rcases hf.or with rfl | rfl <;> omega
 have w1' : IntKind.i64.wrap ((2 : Int) ^ L) = (2 : Int) ^ L := IntWalk.i64_in _ (by rw [show (2 : Int) ^ L = ((2 ^ L : Nat) : Int) by rw [Int.natCast_pow]; rfl]; omega)
 have hL0 : (0 : Int) ≤ (L : Int) := by omega
 have hL64 : (L : Int) ≤ 10 := by omega
 clear hp hp0
 generalize pows (rootK f L) (2 ^ L) = pp at *
 generalize rootK f L = r at *
 have hb00 : Below w.heap.size w w := Below.refl _ _
 go_enter Tryz.func31, Tryz.ntmps31
 go_wp2_with fail
 refine (HV.out _).mono ?_
 rintro e w' ⟨rfl, rfl⟩
 go_wp2_with fail
 refine (HRT.out _).mono ?_
 rintro e w1 ⟨rfl, hb1⟩
 replace hb00 := bl_call hb00 (Nat.le_refl _) hb1
 clear hb1
 go_upto_region 6 with fail
 have r0 := V2.new w1 (.int .u64 (lo r)) (.int .u64 (hi r)) 36
 have hbA : Below w1.heap.size w1 (w1.alloc (.cells #[.int .u64 (lo r), .int .u64 (hi r)] 36)) := by repeat (first | exact bA | with_reducible assumption | apply bB)
 replace hb00 := bl_call hb00 (Nat.le_refl _) hbA
 clear hbA
 generalize w1.alloc (.cells #[.int .u64 (lo r), .int .u64 (hi r)] 36) = w2 at hb00 r0 ⊢
 go_upto_region 8 with fail
 obtain ⟨r00, r01, r02, r03, r04⟩ := V2.mk r0.c0 r0.c1 r0.f0 r0.f1 r0.lt
 have HT0 : Below w2.heap.size w2 w2.drew := ⟨rfl, rfl, rfl, Nat.le_refl _, fun _ _ => rfl⟩
 refine region_X (fun wz => Below w2.heap.size w2 wz) (fun wz => Below w2.heap.size w2 wz) (fun _ h => h) (fun _ _ h hb => bl_call h (Nat.le_refl _) hb) HT0 (n := 5) (m := 7) (f := 5) (by kernel_rfl) (by kernel_rfl) rfl ?_
 refine WpX.vD 0 (some 26) ?_ rfl rfl (by kernel_rfl) (fun _ _ _ h => h) rfl (fun wz hwz => ?_) ?_
 rotate_left
 ·go_simp; try (with_reducible rfl)
 simp only [Zp, Zq, Zr, Zs]
 refine WpX.vD 1 (some 27) ?_ rfl rfl (by kernel_rfl) (fun _ _ _ h => h) rfl (fun wz hwz => ?_) ?_
 rotate_left
 ·(obtain ⟨hcz, hfz⟩ := bcell hwz; go_simp; try (with_reducible rfl))
 simp only [Zp, Zq, Zr, Zs]
 refine WpX.vD 2 (some 28) ?_ rfl rfl (by kernel_rfl) (fun _ _ _ h => h) rfl (fun wz hwz => ?_) ?_
 rotate_left
 ·go_simp; try (with_reducible rfl)
 simp only [Zp, Zq, Zr, Zs]
 refine WpX.vD 3 (some 29) ?_ rfl rfl (by kernel_rfl) (fun _ _ _ h => h) rfl (fun wz hwz => ?_) ?_
 rotate_left
 ·go_simp; try (with_reducible rfl)
 simp only [Zp, Zq, Zr, Zs]
 refine WpX.oneD 4 (some 30) rfl rfl (by kernel_rfl) (fun v : Value => v) (fun _ wz => Below w2.heap.size w2 wz) (fun v wz => Below w2.heap.size w2 wz ∧ wz.ownsRow w2.heap.size 36 2 v pp.length (cellsE (esK pp))) (Turns.call rfl (fun _ _ h => h) (fun _ _ h => h.1) (fun _ _ _ h hb => ⟨bl_call h.1 (Nat.le_refl _) hb, own_call h.2 hb⟩) (fun wz hS => (HPW.out wz).mono fun e w' ⟨v, he, ho, hb⟩ => ⟨v, he, bl_call hS (Nat.le_refl _) hb, own_mono ho hS.size⟩) (fun wz hS => by go_simp; try (with_reducible rfl))) (fun vp => ?_)
 simp only [Zp, Zq, Zr, Zs]
 refine WpX.done (by kernel_rfl) (fun w3 hS => ?_)
 (try simp only [List.drop_succ_cons]); (try simp only [List.drop_zero]); (try simp only [Nat.reduceSub]); (try simp only [List.take_succ_cons]); (try simp only [List.take_zero])
 obtain ⟨hb3, ho⟩ := hS
 go_wp2
 go_ret2
 exact ⟨vp, rfl, own_mono ho hb00.size, bl_call hb00 (Nat.le_refl _) hb3⟩

end

end Go.Proofs.YtfbfbijkkbflkaaGreatDoor

namespace Go.Proofs.YtfbfbijkkbflkaaGreatDoor
open Go.RowKit Fm
set_option linter.unusedVariables false
set_option maxRecDepth 100000

theorem exec_append_S {w w' : World} {o : Oper} {a : Act} (s x : Operand) (ho : o.op = .call { callee := .builtin .append, args := #[s, x], argTypes := #[59, 59] }) {v1 v2 v' : Value} (hs : a.eval s = v1) (hx : a.eval x = v2)
  (hrun : (Builtin.append_ #[59, 59] o.type #[v1, v2]).run Tryz.prog w = .ok v' w') : (execOp a.eval o).run Tryz.prog w = .ok (.value v') w' := by
 unfold execOp
 simp only [ho, resolve, invoke, builtin, Sem.run_bind, Sem.run_pure, Result.andThen_ok, List.map_toArray, List.map_cons, List.map_nil, hs, hx, hrun]

section
variable {f : Nat}
structure BeI (wb N B : Nat) (hv v : Value) (i : Nat) (us : List Value) (xs : KL f) (w : World) : Prop where
 st : Vs w wb [hv, .int .i64 (N : Nat)]
 rows : w.ownsRow B 24 1 v i us
 len : us.length = i
 one : ∀ (j : Nat) (u : Value), us[j]? = some u → ∃ (g : Nat) (x : Fin (Pm f)), u = .slice (some ⟨g, 0, none⟩) 1 1 ∧ xs[j]? = some x ∧ BlkE w g [eK x] ∧ B ≤ g
 inj : ∀ (j k : Nat) (u : Value), j ≠ k → us[j]? = some u → ¬ (us[k]? = some u)
 lt : wb < B
variable {wb N B i : Nat} {hv v : Value} {us : List Value} {xs : KL f} {w w' : World}
theorem BeI.call (h : BeI wb N B hv v i us xs w) (hb : Below w.heap.size w w') : BeI wb N B hv v i us xs w' :=
 ⟨h.st.call hb, own_call h.rows hb, h.len, fun j u hj => let ⟨g, x, h1, h2, h3, h4⟩ := h.one j u hj; ⟨g, x, h1, h2, h3.call hb, h4⟩, h.inj, h.lt⟩
theorem BeI.clo (wb N B : Nat) (hv v : Value) (i : Nat) (us : List Value) (xs : KL f) : Clo (BeI wb N B hv v i us xs) := fun _ _ h hb => h.call hb
theorem BlkE.own {g : Nat} {l : List E} (h : BlkE w g l) (hn : l.length ≤ 9223372036854775807) {base : Nat} (hb : base ≤ g) : w.ownsRow base 36 2 (.slice (some ⟨g, 0, none⟩) l.length l.length) l.length (cellsE l) := by
 refine ⟨by rw [length_cellsE], .inr ⟨g, l.length, _, rfl, hb, h, Nat.le_refl _, by unfold maxLen; omega, ?_, ?_⟩⟩
 ·simp [length_cellsE]
 ·show List.take (l.length * 2) (cellsE l) = cellsE l
  rw [← length_cellsE, List.take_length]
theorem BeI.app (h : BeI wb N B hv v i us xs w) (nb sb c : Nat) (x : Fin (Pm f)) (hx : xs[i]? = some x) (hE : BlkE w nb [eK x]) (hnb : B ≤ nb) (hnew : ∀ (j : Nat) (u : Value), us[j]? = some u → ¬ (u = .slice (some ⟨nb, 0, none⟩) 1 1))
  (hcell : w.cell? ⟨sb, 0, none⟩ = some (.slice (some ⟨nb, 0, none⟩) 1 1)) (hi : i + 1 ≤ 1000000) (hB : B ≤ w.heap.size) (ty : TypeId) :
  ∃ q : Nat × Nat, ∃ w', (Builtin.append_ #[59, 59] ty #[v, .slice (some ⟨sb, 0, none⟩) 1 c]).run Tryz.prog w = .ok (.slice (some ⟨q.1, 0, none⟩) (i + 1) q.2) w' ∧ Below B w w' ∧ (∀ (g : Nat) (l : List E), BlkE w g l → l.length ≤ 9 → BlkE w' g l) ∧ w.heap.size ≤ w'.heap.size ∧
   BeI wb N B hv (.slice (some ⟨q.1, 0, none⟩) (i + 1) q.2) (i + 1) (us ++ [.slice (some ⟨nb, 0, none⟩) 1 1]) xs w' := by
 obtain ⟨v', w', hr, ho, hg, _⟩ := run_append_S w B ty v i us h.rows sb 0 c (.slice (some ⟨nb, 0, none⟩) 1 1) ⟨_, _, _, rfl⟩ hcell hi hB
 obtain ⟨g2, c2, rfl⟩ := own_slice ho
 have hb : Below B w w' := (Below.refl _ _).grown hg hB (fun q hq => (h.rows.lt q hq).1)
 have hkeep : ∀ (g : Nat) (l : List E), BlkE w g l → l.length ≤ 9 → BlkE w' g l := fun g l hl h9 => by
  have hne : ¬ (v.ownBlock = some g) := fun h8 => own_ne (by decide) h.rows (hl.own (by omega) (Nat.zero_le g)) h8 rfl
  exact hl.exc hne (grown_exc hg)
 refine ⟨(g2, c2), w', hr, hb, hkeep, hg.size, ⟨h.st.belowB hb h.lt, ho, by rw [List.length_append, h.len]; rfl, fun j u hj => ?_, fun j k u hjk h1 h2 => ?_, h.lt⟩⟩
 ·by_cases hji : j < us.length
  ·rw [List.getElem?_append_left hji] at hj
   obtain ⟨g, y, k1, k2, k3, k4⟩ := h.one j u hj
   exact ⟨g, y, k1, k2, hkeep g _ k3 (by simp), k4⟩
  ·rw [List.getElem?_append_right (by omega)] at hj
   obtain ⟨d, hd⟩ : ∃ d, j - us.length = d := ⟨_, rfl⟩
   rw [hd] at hj
   cases d with
   | zero =>
    injection hj with hj
    subst hj
    have : j = i := by have := h.len; omega
    subst this
    exact ⟨nb, x, rfl, hx, hkeep nb _ hE (by simp), hnb⟩
   | succ d => simp at hj
 ·have hl := h.len
  have hcase : ∀ (m : Nat) (z : Value), (us ++ [Value.slice (some ⟨nb, 0, none⟩) 1 1])[m]? = some z → (m < us.length ∧ us[m]? = some z) ∨ (m = us.length ∧ z = .slice (some ⟨nb, 0, none⟩) 1 1) := fun m z hm => by
   by_cases hml : m < us.length
   ·rw [List.getElem?_append_left hml] at hm
    exact .inl ⟨hml, hm⟩
   ·rw [List.getElem?_append_right (by omega)] at hm
    obtain ⟨d, hd⟩ : ∃ d, m - us.length = d := ⟨_, rfl⟩
    rw [hd] at hm
    cases d with
    | zero =>
     injection hm with hm
     exact .inr ⟨by omega, hm.symm⟩
    | succ d => simp at hm
  rcases hcase j u h1 with ⟨a1, a2⟩ | ⟨a1, a2⟩
  ·rcases hcase k u h2 with ⟨b1, b2⟩ | ⟨b1, b2⟩
   ·exact h.inj j k u hjk a2 b2
   ·exact hnew j u a2 b2
  ·rcases hcase k u h2 with ⟨b1, b2⟩ | ⟨b1, b2⟩
   ·exact hnew k u b2 a2
   ·omega
theorem BeI.put (h : BeI wb N B hv v i us xs w) : BeI wb N B v v i us xs (w.setCell ⟨wb, 0, none⟩ v) := by
 have hlt := h.lt
 refine ⟨h.st.put 0 (by simp) v, own_same h.rows (fun g hg => Below.heap_setCell _ _ _ _ (by have := (h.rows.lt g hg).1; dsimp only; omega)), h.len, fun j u hj => ?_, h.inj, h.lt⟩
 obtain ⟨g, x, k1, k2, k3, k4⟩ := h.one j u hj
 exact ⟨g, x, k1, k2, k3.far (by dsimp only; omega) v, k4⟩
theorem BeI.wires {g cp : Nat} (h : BeI wb N B (.slice (some ⟨g, 0, none⟩) xs.length cp) (.slice (some ⟨g, 0, none⟩) xs.length cp) xs.length us xs w) :
  WrI wb g cp N us (xs.map fun x => [x]) w ∧ ∀ q, WrD wb g us q → wb ≤ q := by
 have hlt := h.lt
 have hml : (xs.map fun x => [x]).length = xs.length := List.length_map ..
 refine ⟨⟨by rw [hml]; exact h.st, (own_vs h.rows).1, by rw [hml]; exact (own_vs h.rows).2.1, by rw [hml]; exact h.len, fun j u l hj hl => ?_, fun j k u z q hjk hj hk hq hz => ?_, by have := (h.rows.lt g rfl).1; omega, fun j u hj hu => ?_, fun j u hj hu => ?_⟩, fun q hq => ?_⟩
 ·obtain ⟨g', x, rfl, k2, k3, k4⟩ := h.one j u hj
  rw [List.getElem?_map, k2] at hl
  injection hl with hl
  subst hl
  exact k3.own (by simp) (Nat.zero_le _)
 ·obtain ⟨g1, x1, rfl, _⟩ := h.one j u hj
  obtain ⟨g2, x2, rfl, _⟩ := h.one k z hk
  have e1 : g1 = q := Option.some.inj hq
  have e2 : g2 = q := Option.some.inj hz
  subst e1
  subst e2
  exact h.inj j k _ hjk hj hk
 ·obtain ⟨g1, x1, rfl, _, _, k4⟩ := h.one j u hj
  have e1 : g1 = wb := Option.some.inj hu
  omega
 ·obtain ⟨g1, x1, rfl, _, k3, k4⟩ := h.one j u hj
  exact own_ne (by decide) h.rows (k3.own (by simp) (Nat.zero_le g1)) rfl hu
 ·rcases hq with rfl | rfl | ⟨j, u, h1, h2⟩
  ·exact Nat.le_refl _
  ·have := (h.rows.lt q rfl).1
   omega
  ·obtain ⟨g1, x1, rfl, _, _, k4⟩ := h.one j u h1
   have e1 : g1 = q := Option.some.inj h2
   omega
structure BeT (w0 w4 : World) (B wb N : Nat) (hv : Value) (xb : Nat) (x : Fin (Pm f)) (wz : World) : Prop where
 st : Vs wz wb [hv, .int .i64 (N : Nat)]
 bx : BlkE wz xb [eK x]
 bl : Below w0.heap.size w0 wz
 sz : w4.heap.size ≤ wz.heap.size
variable {w0 w4 : World} {xb nb sb : Nat} {x : Fin (Pm f)}
theorem BeT.clo (w0 w4 : World) (B wb N : Nat) (hv : Value) (xb : Nat) (x : Fin (Pm f)) : Clo (BeT w0 w4 B wb N hv xb x) := fun _ _ h hb => ⟨h.st.call hb, h.bx.call hb, bl_call h.bl (Nat.le_refl _) hb, Nat.le_trans h.sz hb.size⟩
def BeS0 (w0 w4 : World) (B wb N : Nat) (hv : Value) (xb : Nat) (x : Fin (Pm f)) (i : Nat) (us : List Value) (xs : KL f) (wz : World) : Prop := BeT w0 w4 B wb N hv xb x wz ∧ BeI wb N B hv hv i us xs wz
theorem BeS0.clo (w0 w4 : World) (B wb N : Nat) (hv : Value) (xb : Nat) (x : Fin (Pm f)) (i : Nat) (us : List Value) (xs : KL f) : Clo (BeS0 w0 w4 B wb N hv xb x i us xs) := fun _ _ h hb => ⟨BeT.clo _ _ _ _ _ _ _ _ _ _ h.1 hb, h.2.call hb⟩
def BeS1 (w0 w4 : World) (B wb N : Nat) (hv : Value) (xb : Nat) (x : Fin (Pm f)) (i : Nat) (us : List Value) (xs : KL f) (nb : Nat) (wz : World) : Prop := BeS0 w0 w4 B wb N hv xb x i us xs wz ∧ BlkE wz nb [eK x] ∧ w4.heap.size ≤ nb
theorem BeS1.clo (w0 w4 : World) (B wb N : Nat) (hv : Value) (xb : Nat) (x : Fin (Pm f)) (i : Nat) (us : List Value) (xs : KL f) (nb : Nat) : Clo (BeS1 w0 w4 B wb N hv xb x i us xs nb) := fun _ _ h hb => ⟨BeS0.clo _ _ _ _ _ _ _ _ _ _ _ _ _ h.1 hb, h.2.1.call hb, h.2.2⟩
def BeS2 (w0 w4 : World) (B wb N : Nat) (hv : Value) (xb : Nat) (x : Fin (Pm f)) (i : Nat) (us : List Value) (xs : KL f) (nb sb : Nat) (wz : World) : Prop := BeS1 w0 w4 B wb N hv xb x i us xs nb wz ∧ Vs wz sb [.slice (some ⟨nb, 0, none⟩) 1 1]
theorem BeS2.clo (w0 w4 : World) (B wb N : Nat) (hv : Value) (xb : Nat) (x : Fin (Pm f)) (i : Nat) (us : List Value) (xs : KL f) (nb sb : Nat) : Clo (BeS2 w0 w4 B wb N hv xb x i us xs nb sb) := fun _ _ h hb => ⟨BeS1.clo _ _ _ _ _ _ _ _ _ _ _ _ _ _ h.1 hb, h.2.call hb⟩
def BeS3 (w0 w4 : World) (B wb N : Nat) (hv : Value) (xb : Nat) (x : Fin (Pm f)) (i : Nat) (us : List Value) (xs : KL f) (nb : Nat) (q : Nat × Nat) (wz : World) : Prop := BeT w0 w4 B wb N hv xb x wz ∧ BeI wb N B hv (.slice (some ⟨q.1, 0, none⟩) (i + 1) q.2) (i + 1) (us ++ [.slice (some ⟨nb, 0, none⟩) 1 1]) xs wz
theorem BeS3.clo (w0 w4 : World) (B wb N : Nat) (hv : Value) (xb : Nat) (x : Fin (Pm f)) (i : Nat) (us : List Value) (xs : KL f) (nb : Nat) (q : Nat × Nat) : Clo (BeS3 w0 w4 B wb N hv xb x i us xs nb q) := fun _ _ h hb => ⟨BeT.clo _ _ _ _ _ _ _ _ _ _ h.1 hb, h.2.call hb⟩
theorem BeS0.mk1 {wz : World} (h : BeS0 w0 w4 B wb N hv xb x i us xs wz) : BeS1 w0 w4 B wb N hv xb x i us xs wz.heap.size (wz.alloc (.cells #[.int .u64 (lo x), .int .u64 (hi x)] 36)) :=
 ⟨BeS0.clo _ _ _ _ _ _ _ _ _ _ _ _ _ h ((Below.refl _ _).alloc (Nat.le_refl _) _), heap_alloc_new wz _, h.1.sz⟩
theorem BeS1.mk2 {wz : World} (h : BeS1 w0 w4 B wb N hv xb x i us xs nb wz) : BeS2 w0 w4 B wb N hv xb x i us xs nb wz.heap.size (wz.alloc (.cells #[.slice (some ⟨nb, 0, none⟩) 1 1] 24)) :=
 ⟨BeS1.clo _ _ _ _ _ _ _ _ _ _ _ _ _ _ h ((Below.refl _ _).alloc (Nat.le_refl _) _), Vs.new wz _ _ _ rfl⟩
theorem BeS2.app {wz : World} (h : BeS2 w0 w4 B wb N hv xb x i us xs nb sb wz) (hx : xs[i]? = some x) (hi : i + 1 ≤ 1000000) (hB : B ≤ w4.heap.size) (h0 : w0.heap.size ≤ B) (hus : ∀ (j : Nat) (u : Value) (g : Nat), us[j]? = some u → u = .slice (some ⟨g, 0, none⟩) 1 1 → g < w4.heap.size) (ty : TypeId) :
  ∃ q : Nat × Nat, ∃ w', (Builtin.append_ #[59, 59] ty #[hv, .slice (some ⟨sb, 0, none⟩) 1 1]).run Tryz.prog wz = .ok (.slice (some ⟨q.1, 0, none⟩) (i + 1) q.2) w' ∧ BeS3 w0 w4 B wb N hv xb x i us xs nb q w' := by
 obtain ⟨⟨⟨hT, hI⟩, hE, hn⟩, hc⟩ := h
 have hz := hT.sz
 obtain ⟨q, w', hr, hb, hk, hs, hI'⟩ := hI.app nb sb 1 x hx hE (by omega) (fun j u hj hu => by have := hus j u nb hj hu; omega) hc.get1.1 hi (by omega) ty
 exact ⟨q, w', hr, ⟨hI'.st, hk xb _ hT.bx (by simp), hT.bl.trans (hb.mono h0), by omega⟩, hI'⟩
end

end Go.Proofs.YtfbfbijkkbflkaaGreatDoor
