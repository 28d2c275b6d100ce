/-
 Vector, PfQ3: for ProofWrong.
-/
import Derived.Test.YtfbfbijkkbflkaaGreatDoorMba
import Derived.Test.YtfbfbijkkbflkaaGreatDoorQab
namespace Go.Proofs.YtfbfbijkkbflkaaGreatDoor
open Go.RowKit Fm
set_option linter.unusedVariables false
set_option maxRecDepth 100000

def RetV (f n : Nat) (w : World) (e : Ending) (w' : World) : Prop :=
 ∃ (g : Nat) (zs : KL f), zs.length = n ∧ e = .returned (.slice (some ⟨g, 0, none⟩) n n) ∧ BlkE w' g (esK zs) ∧ w.heap.size ≤ g ∧ Below w.heap.size w w'

theorem fill_put {f : Nat} (zs : KL f) (n k : Nat) (hz : zs.length = k) (hk : k < n) (y : Fin (Pm f)) (a b : Int) (hy : eK y = (a, b)) :
  (esK zs ++ List.replicate (n - k) ((0, 0) : E)).set k (a, b) = esK (zs ++ [y]) ++ List.replicate (n - (k + 1)) (0, 0) := by
 have hl : (esK zs).length = k := by rw [esK_length, hz]
 rw [List.set_append_right _ _ (by rw [hl]; exact Nat.le_refl _), hl, Nat.sub_self, show n - k = (n - (k + 1)) + 1 by omega, List.replicate_succ, List.set_cons_zero, esK_append, esK_cons, esK_nil, hy, List.append_assoc]
 rfl
theorem fill_none {f : Nat} (zs : KL f) (n k : Nat) (hk : k < n) :
  esK zs ++ List.replicate (n - k) ((0, 0) : E) = esK (zs ++ [(0 : Fin (Pm f))]) ++ List.replicate (n - (k + 1)) (0, 0) := by
 rw [show n - k = (n - (k + 1)) + 1 by omega, List.replicate_succ, esK_append, esK_cons, esK_nil, eK_zero, List.append_assoc]
 rfl
section
variable {f : Nat} (hf : IsF f)
include hf

set_option maxHeartbeats 8000000 in
theorem law10_Vector (y : CK) (hy : y.ok) (vl : Value) (l : List E) (sm : Bool) (w : World) (hl : SlE w w.heap.size vl l) (hl60 : l.length ≤ 60) :
  Calls Tryz.prog 12 #[y.val f, vl, .bool sm] w (RetV f y.nin w) := by
 have HI := Lib.hid (fun wz => circuit_In f y hy wz)
 have hnin := CK.nin_le hy
 obtain ⟨⟨A, c, rfl, hlc, hcm, hA⟩, hok⟩ := hl
 have hfb0 : (1 : Int) ≤ (f : Int) := by rcases hf.or with rfl | rfl <;> omega
 have hfb1 : (f : Int) ≤ 2 := by rcases hf.or with rfl | rfl <;> omega
 unfold CK.val at HI ⊢
 obtain ⟨K, hK⟩ : ∃ K : Int, ((y.k : Nat) : Int) = K := ⟨_, rfl⟩
 obtain ⟨B, hB⟩ : ∃ K : Int, ((y.b : Nat) : Int) = K := ⟨_, rfl⟩
 obtain ⟨N, hN⟩ : ∃ K : Int, ((y.l : Nat) : Int) = K := ⟨_, rfl⟩
 obtain ⟨M, hM⟩ : ∃ K : Int, ((y.m : Nat) : Int) = K := ⟨_, rfl⟩
 obtain ⟨C, hC⟩ : ∃ K : Int, ((y.c : Nat) : Int) = K := ⟨_, rfl⟩
 rw [hK, hB, hN, hM, hC] at HI ⊢
 clear hK hB hN hM hC hy
 generalize y.nin = n at *
 have hmk := make_elem n (by omega)
 have hb00 : Below w.heap.size w w := Below.refl _ _
 go_enter Tryz.func12, Tryz.ntmps12
 go_upto_region 1 with fail
 have hx := Vs.new w [.int .u8 K, .int .u8 f, .int .i64 B, .int .i64 N, .int .i64 M, .int .i64 C] #[.int .u8 K, .int .u8 f, .int .i64 B, .int .i64 N, .int .i64 M, .int .i64 C] 30 rfl
 have hbA : Below w.heap.size w (w.alloc (.cells #[.int .u8 K, .int .u8 f, .int .i64 B, .int .i64 N, .int .i64 M, .int .i64 C] 30)) := by repeat (first | exact bA | with_reducible assumption | apply bB)
 replace hb00 := bl_call hb00 (Nat.le_refl _) hbA
 clear hbA
 generalize w.alloc (.cells #[.int .u8 K, .int .u8 f, .int .i64 B, .int .i64 N, .int .i64 M, .int .i64 C] 30) = w1 at hb00 hx ⊢
 obtain ⟨⟨x0, x1, x2, x3, x4, x5⟩, ⟨x6, x7, x8, x9, x10, x11⟩, x12⟩ := hx.get6
 go_upto_region 2 with (first
  | (go_at_call 42; refine (HI.out _).mono ?_; rintro e w2 ⟨rfl, hb2⟩; replace hb00 := bl_call hb00 (Nat.le_refl _) hb2; replace hx := hx.call hb2; obtain ⟨⟨x0, x1, x2, x3, x4, x5⟩, ⟨x6, x7, x8, x9, x10, x11⟩, x12⟩ := hx.get6))
 have hBk : BlkE (w2.alloc (.cells (cellsE (List.replicate n (0, 0))).toArray 36)) w2.heap.size (List.replicate n (0, 0)) := heap_alloc_new w2 _
 have hbA : Below w2.heap.size w2 (w2.alloc (.cells (cellsE (List.replicate n (0, 0))).toArray 36)) := by repeat (first | exact bA | with_reducible assumption | apply bB | (refine bC ?_ (by dsimp only; omega)) | apply bD | apply bE | (refine bF ?_ (by assumption)))
 have hgx : w.heap.size < w2.heap.size := hx.lt
 clear x0 x1 x2 x3 x4 x5 x6 x7 x8 x9 x10 x11 x12
 replace hb00 := bl_call hb00 (Nat.le_refl _) hbA
 replace hx := hx.call hbA
 clear hbA hb2
 obtain ⟨g, hg⟩ : ∃ g, w2.heap.size = g := ⟨_, rfl⟩
 rw [hg] at hBk hgx ⊢
 generalize w2.alloc (.cells (cellsE (List.replicate n (0, 0))).toArray 36) = w3 at hBk hx hb00 ⊢
 clear hg hmk HI
 go_wp2_with fail
 go_loopw [14] (fun i wr => ∃ (k : Nat) (zs : KL f), zs.length = k ∧ k ≤ n ∧ i = .int .i64 k ∧ BlkE wr g (esK zs ++ List.replicate (n - k) (0, 0)) ∧ Vs wr w.heap.size [.int .u8 K, .int .u8 f, .int .i64 B, .int .i64 N, .int .i64 M, .int .i64 C] ∧ Below w.heap.size w wr) (fun i _ => n - (intOf i).toNat)
 case atStart => exact ⟨0, [], rfl, Nat.zero_le _, rfl, hBk, hx, hb00⟩
 case round =>
  clear hBk hx hb00
  obtain ⟨k, zs, hzl, hk, rfl, hBk, hx, hbw⟩ := hrel
  obtain ⟨⟨x0, x1, x2, x3, x4, x5⟩, ⟨x6, x7, x8, x9, x10, x11⟩, x12⟩ := hx.get6
  have HZ := Lib.hid hzl
  clear hzl
  by_cases hlt : k < n
  ·by_cases hl0 : l.length = 0
   ·rw [fill_none zs n k hlt] at hBk
    have HBK := Lib.hid hBk
    clear hBk hA
    go_wp2
    go_roundw
    case rel => exact ⟨k + 1, zs ++ [0], (by rw [List.length_append, HZ.out]; rfl), by omega, by go_num, HBK.out, hx, hbw⟩
    case measure => simp [intOf]; omega
   ·obtain ⟨b, o, rfl, hBl, hr⟩ := hA (by omega)
    have hjm : k % l.length < l.length := Nat.mod_lt _ (by omega)
    obtain ⟨⟨e0, e1⟩, he⟩ : ∃ e, l[k % l.length]? = some e := ⟨_, List.getElem?_eq_getElem hjm⟩
    obtain ⟨h0, h1, h2, h3⟩ := hok _ (List.mem_of_getElem? he)
    obtain ⟨c0, c1⟩ := (hr.below hbw hBl) _ _ he
    dsimp only at h0 h1 h2 h3 c0 c1
    have hbl : b < wr.heap.size := Nat.lt_of_lt_of_le hBl hbw.size
    have HO := Lib.hid (fun wz => ref_OfL hf e0 e1 wz h0 h1 h2 h3)
    obtain ⟨x, hxx⟩ : ∃ x, kL f e0 e1 = x := ⟨_, rfl⟩
    rw [hxx] at HO
    have hjn : 0 ≤ (k : Int) % (l.length : Int) := Int.emod_nonneg _ (by omega)
    have hjl : (k : Int) % (l.length : Int) < (l.length : Int) := Int.emod_lt_of_pos _ (by omega)
    have hjt : ((k : Int) % (l.length : Int)).toNat = k % l.length := by rw [← Int.natCast_emod, Int.toNat_natCast]
    have hjd : (k : Int).tmod (l.length : Int) = (k : Int) % (l.length : Int) := Int.tmod_eq_emod_of_nonneg (by omega)
    have hgl : g < wr.heap.size := hBk.lt
    have hl9 : ¬ (l.length = 0) := hl0
    have hwf : IntKind.i64.wrap (f : Int) = (f : Int) := IntWalk.i64_in _ (by omega)
    clear he hr hA hxx
    go_upto_region 6 with fail
    refine region_B (n := 14) (m := 15) (f := 14) (by kernel_rfl) (by kernel_rfl) rfl ?_
    refine WpH.vD 0 (some 20) ?_ rfl rfl (by kernel_rfl) (fun _ _ _ h => h) rfl (fun wz hwz => ?_) ?_
    rotate_left
    ·go_simp; try (with_reducible rfl)
    simp only [Zp, Zq, Zr, Zs]
    refine WpH.vD 1 (some 21) ?_ rfl rfl (by kernel_rfl) (fun _ _ _ h => h) rfl (fun wz hwz => ?_) ?_
    rotate_left
    ·go_simp; try (with_reducible rfl)
    simp only [Zp, Zq, Zr, Zs]
    refine WpH.vD 2 (some 22) ?_ rfl rfl (by kernel_rfl) (fun _ _ _ h => h) rfl (fun wz hwz => ?_) ?_
    rotate_left
    ·go_simp; try (with_reducible rfl)
    simp only [Zp, Zq, Zr, Zs]
    refine WpH.vD 3 (some 23) ?_ rfl rfl (by kernel_rfl) (fun _ _ _ h => h) rfl (fun wz hwz => ?_) ?_
    rotate_left
    ·(obtain ⟨hcz, hfz⟩ := bcell hwz; go_simp; try (with_reducible rfl))
    simp only [Zp, Zq, Zr, Zs]
    refine WpH.vD 4 (some 24) ?_ rfl rfl (by kernel_rfl) (fun _ _ _ h => h) rfl (fun wz hwz => ?_) ?_
    rotate_left
    ·go_simp; try (with_reducible rfl)
    simp only [Zp, Zq, Zr, Zs]
    refine WpH.vD 5 (some 25) ?_ rfl rfl (by kernel_rfl) (fun _ _ _ h => h) rfl (fun wz hwz => ?_) ?_
    rotate_left
    ·go_simp; try (with_reducible rfl)
    simp only [Zp, Zq, Zr, Zs]
    refine WpH.vD 6 (some 26) ?_ rfl rfl (by kernel_rfl) (fun _ _ _ h => h) rfl (fun wz hwz => ?_) ?_
    rotate_left
    ·go_simp; try (with_reducible rfl)
    simp only [Zp, Zq, Zr, Zs]
    refine WpH.vD 7 (some 27) ?_ rfl rfl (by kernel_rfl) (fun _ _ _ h => h) rfl (fun wz hwz => ?_) ?_
    rotate_left
    ·go_simp; try (with_reducible rfl)
    simp only [Zp, Zq, Zr, Zs]
    refine WpH.vD 8 (some 28) ?_ rfl rfl (by kernel_rfl) (fun _ _ _ h => h) rfl (fun wz hwz => ?_) ?_
    rotate_left
    ·go_simp; try (with_reducible rfl)
    simp only [Zp, Zq, Zr, Zs]
    refine WpH.vD 9 (some 29) ?_ rfl rfl (by kernel_rfl) (fun _ _ _ h => h) rfl (fun wz hwz => ?_) ?_
    rotate_left
    ·go_simp; try (with_reducible rfl)
    simp only [Zp, Zq, Zr, Zs]
    refine WpH.vD 10 (some 30) ?_ rfl rfl (by kernel_rfl) (fun _ _ _ h => h) rfl (fun wz hwz => ?_) ?_
    rotate_left
    ·go_simp; try (with_reducible rfl)
    simp only [Zp, Zq, Zr, Zs]
    refine WpH.vD 11 (some 31) ?_ rfl rfl (by kernel_rfl) (fun _ _ _ h => h) rfl (fun wz hwz => ?_) ?_
    rotate_left
    ·(obtain ⟨hcz, hfz⟩ := bcell hwz; go_simp; try (with_reducible rfl))
    simp only [Zp, Zq, Zr, Zs]
    refine WpH.takeD 12 (some 32) rfl rfl (by kernel_rfl) (fun _ _ _ h => h) (.call rfl (fun wz hwz => HO.out wz) (fun wz hwz => ?_)) ?_
    ·go_simp; try (with_reducible rfl)
    simp only [Zp, Zq, Zr, Zs]
    refine WpH.vD 13 (some 33) ?_ rfl rfl (by kernel_rfl) (fun _ _ _ h => h) rfl (fun wz hwz => ?_) ?_
    rotate_left
    ·go_simp; try (with_reducible rfl)
    simp only [Zp, Zq, Zr, Zs]
    refine WpH.doneB (by kernel_rfl) (fun w6 hw6 => ?_)
    (try simp only [List.drop_succ_cons]); (try simp only [List.drop_zero]); (try simp only [Nat.reduceSub]); (try simp only [List.take_succ_cons]); (try simp only [List.take_zero])
    replace hBk := hBk.call hw6
    clear x0 x1 x2 x3 x4 x5 x6 x7 x8 x9 x10 x11 x12
    replace hbw := bl_call hbw (Nat.le_refl _) hw6
    replace hx := hx.call hw6
    obtain ⟨⟨x0, x1, x2, x3, x4, x5⟩, ⟨x6, x7, x8, x9, x10, x11⟩, x12⟩ := hx.get6
    have hzk : ∃ u v : Value, w6.cell? ⟨g, k * 2, none⟩ = some u ∧ w6.cell? ⟨g, k * 2 + 1, none⟩ = some v := by
     have hlen : k < (esK zs ++ List.replicate (n - k) ((0, 0) : E)).length := by
      rw [List.length_append, List.length_replicate, esK_length, HZ.out]
      omega
     obtain ⟨e1, e2⟩ := hBk.row k _ (List.getElem?_eq_getElem hlen)
     exact ⟨_, _, e1, e2⟩
    obtain ⟨u, v, z0, z1⟩ := hzk
    have fz0 := hBk.frozen (k * 2)
    have fz1 := hBk.frozen (k * 2 + 1)
    have HS : Hid ((esK zs ++ List.replicate (n - k) ((0, 0) : E)).set k (lo x, hi x) = esK (zs ++ [x]) ++ List.replicate (n - (k + 1)) (0, 0)) := fill_put zs n k HZ.out hlt x _ _ rfl
    have HBS := Lib.hid (hBk.set k (lo x) (hi x))
    clear hBk
    have hgw : w.heap.size ≤ g := by omega
    cases sm with
    | false =>
     go_wp2
     go_roundw
     case rel =>
      have h := HBS.out
      rw [HS.out] at h
      exact ⟨k + 1, zs ++ [x], (by rw [List.length_append, HZ.out]; rfl), by omega, by go_num, h, (hx.far (by dsimp only; omega) _).far (by dsimp only; omega) _, by repeat (first | exact bA | with_reducible assumption | apply bB | (refine bC ?_ (by dsimp only; omega)) | apply bD | apply bE | (refine bF ?_ (by assumption)))⟩
     case measure => simp [intOf]; omega
    | true =>
     obtain ⟨q, hq, hq2⟩ : ∃ q : Nat, lo x % 2 = (q : Int) ∧ q ≤ 1 := ⟨(lo x % 2).toNat, by omega, by omega⟩
     have hx0 := lo_0 x
     have hqm : (lo x).tmod 2 = (q : Int) := by rw [Int.tmod_eq_emod_of_nonneg hx0]; exact hq
     have hwq : IntKind.u64.wrap (q : Int) = (q : Int) := IntWalk.u64_in _ (by omega)
     go_upto_region 8 with fail
     clear x0 x1 x2 x3 x4 x5 x6 x7 x8 x9 x10 x11 x12
     have hB2 := HBS.out
     have hx2 := (hx.far (p := ⟨g, k * 2, none⟩) (by dsimp only; omega) (.int .u64 (lo x))).far (p := ⟨g, k * 2 + 1, none⟩) (by dsimp only; omega) (.int .u64 (hi x))
     have hbw2 := bl_set (p := ⟨g, k * 2 + 1, none⟩) (bl_set (p := ⟨g, k * 2, none⟩) hbw hgw (.int .u64 (lo x))) hgw (.int .u64 (hi x))
     clear hx hbw HBS z0 z1 fz0 fz1 hw6
     generalize (w6.setCell ⟨g, k * 2, none⟩ (.int .u64 (lo x))).setCell ⟨g, k * 2 + 1, none⟩ (.int .u64 (hi x)) = w7 at hB2 hx2 hbw2 ⊢
     rw [HS.out] at hB2
     have hzx : (esK (zs ++ [x]) ++ List.replicate (n - (k + 1)) ((0, 0) : E))[k]? = some (lo x, hi x) := by
      rw [← HS.out, List.getElem?_set_self]
      ·rw [List.length_append, List.length_replicate, esK_length, HZ.out]
       omega
     obtain ⟨z0, z1⟩ := hB2.row k _ hzx
     have fz0 := hB2.frozen (k * 2)
     have fz1 := hB2.frozen (k * 2 + 1)
     have HB3 : Hid (BlkE ((w7.setCell ⟨g, k * 2, none⟩ (.int .u64 q)).setCell ⟨g, k * 2 + 1, none⟩ (.int .u64 0)) g (esK (zs ++ [nK f q]) ++ List.replicate (n - (k + 1)) (0, 0))) := by
      have h := hB2.set k (q : Int) 0
      rw [← HS.out, List.set_set, fill_put zs n k HZ.out hlt (nK f q) _ _ (eK_nK hf (by omega))] at h
      exact h
     clear hB2 hzx
     dsimp only at z0 z1
     go_wp2
     go_roundw
     case rel => exact ⟨k + 1, zs ++ [nK f q], (by rw [List.length_append, HZ.out]; rfl), by omega, by go_num, HB3.out, (hx2.far (by dsimp only; omega) _).far (by dsimp only; omega) _, by repeat (first | exact bA | with_reducible assumption | apply bB | (refine bC ?_ (by dsimp only; omega)) | apply bD | apply bE | (refine bF ?_ (by assumption)))⟩
     case measure => simp [intOf]; omega
  ·obtain rfl : k = n := by omega
   rw [Nat.sub_self, List.replicate_zero, List.append_nil] at hBk
   go_wp2
   go_ret
   exact ⟨g, zs, HZ.out, rfl, hBk, by omega, hbw⟩
end

end Go.Proofs.YtfbfbijkkbflkaaGreatDoor

namespace Go.Proofs.YtfbfbijkkbflkaaGreatDoor
open Go.RowKit Fm
set_option linter.unusedVariables false
set_option maxRecDepth 100000

section
variable {f : Nat}
theorem wpList_append_Ex {w : World} {ops : Array Oper} {rest : List Oper} {o : Oper} {a : Act} {Q : Exit → Act → World → Prop} (hgd : o.guard = none) (s x : Operand)
  (ho : o.op = .call { callee := .builtin .append, args := #[s, x], argTypes := #[24, 24] })
  (base n m : Nat) (v v2 : Value) (l l2 : KL f) (hs : a.eval s = v) (hx : a.eval x = v2) (hl : l.length = n) (hl2 : l2.length = m) (hown : w.ownsRow base 36 2 v n (cellsE (esK l))) (hv2 : SlK w w.heap.size v2 l2) (hbase : base ≤ w.heap.size) (hk : n + m ≤ 1099511627776) (hm : 0 < n + m)
  (h : ∀ (q : Nat × Nat) (w' : World), w'.ownsRow base 36 2 (.slice (some ⟨q.1, 0, none⟩) (n + m) q.2) (n + m) (cellsE (esK (l ++ l2))) → Exc (fun k => v.ownBlock = some k) w.heap.size w w' → (v.ownBlock = some q.1 ∨ q.1 = w.heap.size) → wpList Tryz.prog ops Q rest (a.put o.dst (.slice (some ⟨q.1, 0, none⟩) (n + m) q.2)) w') : wpList Tryz.prog ops Q (o :: rest) a w := by
 subst hl2
 obtain ⟨A, c, rfl, _, _, hA⟩ := hv2
 refine wpList_append_E hgd s x ho base v n (esK l) hs hown A l2.length c (esK l2) hx (esK_length l2) (fun h0 => ?_) hk hbase ?_
 ·obtain ⟨b, o', k1, _, k3⟩ := hA h0
  exact ⟨b, o', k1, k3⟩
 ·intro v' w' ho2 hg hat
  obtain ⟨g2, c2, rfl⟩ := own_sliceP ho2 hm
  rw [← esK_append] at ho2
  refine h (g2, c2) w' ho2 (grown_exc hg) ?_
  rcases hat with hat | hat
  ·exact .inl hat.symm
  ·exact .inr (Option.some.inj hat)
theorem row_ne {w : World} {g b o : Nat} {e : E} {l : KL f} (h : BlkE w g [e]) (hr : RowE w b o (esK l)) (hl : 2 ≤ l.length) : b ≠ g := by
 rintro rfl
 obtain ⟨x, hx⟩ : ∃ x, l[1]? = some x := ⟨_, List.getElem?_eq_getElem (by omega)⟩
 have h1 := (hr.kat hx).1
 have h2 : w.heap[b]? = some (.cells (cellsE [e]).toArray 36) := h
 simp only [World.cell?, h2] at h1
 obtain ⟨e0, e1⟩ := e
 simp [cellsE] at h1
theorem SlK.outOf {w : World} {g : Nat} {e : E} {v : Value} {l : KL f} (h : SlK w w.heap.size v l) (hB : BlkE w g [e]) (hl : 2 ≤ l.length) : SlX (fun q => q = g) w v l := by
 obtain ⟨A, c, hv, h1, h2, h3⟩ := h
 refine ⟨A, c, hv, h1, h2, fun h0 => ?_⟩
 obtain ⟨b, o, k1, k2, k3⟩ := h3 h0
 exact ⟨b, o, k1, k2, row_ne hB k3 hl, k3⟩
theorem rowS_ne {w : World} {g b : Nat} {e : E} {us : List Value} {A : Option Addr} {n c : Nat} (h : BlkE w g [e]) (hr : RowS w b 0 us) (hu : us[0]? = some (.slice A n c)) : b ≠ g := by
 rintro rfl
 have h1 := hr 0 _ hu
 have h2 : w.heap[b]? = some (.cells (cellsE [e]).toArray 36) := h
 simp only [World.cell?, h2] at h1
 obtain ⟨e0, e1⟩ := e
 simp [cellsE] at h1
end

def QE (pb fb qb tb bp gt : Nat) : Nat → Prop := fun q => q = pb ∨ q = fb ∨ q = qb ∨ q = tb ∨ q = bp ∨ q = gt
theorem QE.all (pb fb qb tb bp gt : Nat) : QE pb fb qb tb bp gt pb ∧ QE pb fb qb tb bp gt fb ∧ QE pb fb qb tb bp gt qb ∧ QE pb fb qb tb bp gt tb ∧ QE pb fb qb tb bp gt bp ∧ QE pb fb qb tb bp gt gt :=
 ⟨.inl rfl, .inr (.inl rfl), .inr (.inr (.inl rfl)), .inr (.inr (.inr (.inl rfl))), .inr (.inr (.inr (.inr (.inl rfl)))), .inr (.inr (.inr (.inr (.inr rfl))))⟩
theorem qry_blocks (W : Nat → Prop) (n b2 b8 b10 b12 b14 fb gw gt tb pb qb cb bp : Nat) (h1 : n + 1 < b2) (h2 : b2 ≤ fb) (h3 : fb < b8) (h4 : b8 ≤ gw) (h5 : gw < b10) (h6 : b10 ≤ gt) (h7 : gt < tb) (h8 : b12 = tb + 1) (h9 : b12 ≤ pb) (h10 : pb < b14) (h11 : b14 ≤ qb) (h12 : cb = qb + 1) (h13 : bp < n)
  (hd : ∀ q, W q → b12 ≤ q) (hl : ∀ q, W q → q < b14) (hp : ¬ W pb) :
  (∀ q, QE pb fb qb tb bp gt q → (q = bp ∨ n ≤ q) ∧ q < cb ∧ q ≠ gw ∧ q ≠ n + 1 ∧ ¬ W q) ∧ (∀ q, (W q ∨ (q = cb ∨ QE pb fb qb tb bp gt q)) → (q = bp ∨ n ≤ q) ∧ q ≠ gw ∧ q ≠ n + 1 ∧ (q < n → QE pb fb qb tb bp gt q)) ∧ ¬ W cb ∧ ¬ QE pb fb qb tb bp gt cb := by
 have hE : ∀ q, QE pb fb qb tb bp gt q → (q = bp ∨ n ≤ q) ∧ q < cb ∧ q ≠ gw ∧ q ≠ n + 1 ∧ ¬ W q := fun q hq => by
  refine ⟨?_, ?_, ?_, ?_, ?_⟩
  ·unfold QE at hq
   omega
  ·unfold QE at hq
   omega
  ·unfold QE at hq
   omega
  ·unfold QE at hq
   omega
  ·intro hw
   have k1 := hd q hw
   have k2 := hl q hw
   unfold QE at hq
   rcases hq with hq | hq | hq | hq | hq | hq
   ·exact hp (hq ▸ hw)
   all_goals omega
 refine ⟨hE, fun q hq => ?_, fun hw => by have := hl cb hw; omega, fun h => by have := (hE cb h).2.1; omega⟩
 rcases hq with hq | hq | hq
 ·have k1 := hd q hq
  exact ⟨by omega, by omega, by omega, fun h => by omega⟩
 ·exact ⟨by omega, by omega, by omega, fun h => by omega⟩
 ·obtain ⟨k1, k2, k3, k4, _⟩ := hE q hq
  exact ⟨k1, k3, k4, fun _ => hq⟩

end Go.Proofs.YtfbfbijkkbflkaaGreatDoor
