/-
 CrE, CrF, CrG, TtA: for CollectRight.
-/
import Derived.BigQuiet
import Derived.Test.YtbakkmfjamcbfaaUaf
namespace Go.Proofs.Ytbakkmfjamcbfaa
open Go.RowKit Fm
set_option linter.unusedVariables false
set_option maxRecDepth 100000

set_option maxHeartbeats 4000000 in
theorem msg_Check6 (job start many code9 : Int) (sum : List Int) (hsum : sum.length = 16) (hjb : job ≤ 1099511627776 ∧ start ≤ 1099511627776 ∧ 0 ≤ many ∧ many ≤ 256 ∧ 0 ≤ code9 ∧ code9 ≤ 31) (id : List Int) (hid : id.length = 16) (time code : Int) (A A' : Option Addr) (n c n' c' g cg : Nat) (w : World) (hE : Vs w g (entL id time (.slice A n c) (.slice A' n' c') code)) :
  Calls Try.prog 49 #[.agg (msgL 6 job start many sum code9 (.slice (some ⟨g, 0, none⟩) 1 cg)).toArray] w (RetC (entC time code n n') w) := by
 have HID := Lib.hid hid
 have HSU := Lib.hid hsum
 obtain ⟨j1, j2, j3, j4, j5, j6⟩ := hjb
 have HCE := Lib.hid fun wz => entry_check id hid time code A A' n c n' c' wz
 obtain ⟨ec, hec⟩ : ∃ z, entC time code n n' = z := ⟨_, rfl⟩
 rw [hec] at HCE ⊢
 clear hec hid hsum
 go_enter Try.func49, Try.ntmps49
 go_upto_region 1 with fail
 have hM := Vs.new w (msgL 6 job start many sum code9 (.slice (some ⟨g, 0, none⟩) 1 cg)) ((msgL 6 job start many sum code9 (.slice (some ⟨g, 0, none⟩) 1 cg)).toArray) 27 rfl
 have hb00 : Below w.heap.size w (w.alloc (.cells (msgL 6 job start many sum code9 (.slice (some ⟨g, 0, none⟩) 1 cg)).toArray 27)) := by repeat (first | exact bA | with_reducible assumption | apply bB)
 have hszn : w.heap.size + 1 ≤ (w.alloc (.cells (msgL 6 job start many sum code9 (.slice (some ⟨g, 0, none⟩) 1 cg)).toArray 27)).heap.size := by simp only [World.size_alloc]; omega
 generalize (w.alloc (.cells (msgL 6 job start many sum code9 (.slice (some ⟨g, 0, none⟩) 1 cg)).toArray 27)) = w1 at hM hb00 hszn ⊢
 replace hE := hE.call hb00
 obtain ⟨m0, m1, m2, m3, m4, m5, m6, m7⟩ := hM.msg HSU.out
 go_upto_region 9 with fail
 go_wp2_with fail
 clear m0 m1 m2 m3 m4 m5 m6 m7 hM
 go_loopw [66] (fun i wr => ∃ k : Nat, k ≤ 1 ∧ i = .int .i64 k ∧ Hid (k = 1 → ec = 0) ∧ Vs wr g (entL id time (.slice A n c) (.slice A' n' c') code) ∧ Below w.heap.size w wr) (fun i _ => 1 - (intOf i).toNat)
 case atStart => exact ⟨0, by omega, rfl, Lib.hid fun h => by omega, hE, hb00⟩
 case round =>
  clear hE hb00
  obtain ⟨k, hk, rfl, HK, hE, hbw⟩ := hrel
  by_cases hlt : k < 1
  ·obtain rfl : k = 0 := by omega
   clear hlt hk HK
   go_upto_region 11 with fail
   refine wp_region_lit ?_
   refine wpList_valD (some 68) rfl rfl (by (go_simp; first | with_reducible rfl | exact ⟨rfl, rfl⟩ | (trace_state; fail))) ?_
   simp only [Zp, Zq, Zr, Zs]
   refine wpList_valD (some 69) rfl rfl (exec_load rfl (by kernel_rfl) (hE.loadE HID.out)) ?_
   simp only [Zp, Zq, Zr, Zs]
   refine wpList_valD (some 4) rfl rfl (by (skip; go_simp; first | with_reducible rfl | exact ⟨rfl, rfl⟩ | (trace_state; fail))) ?_
   simp only [Zp, Zq, Zr, Zs]
   have hN := Vs.new wr (entL z16 0 (.slice none 0 0) (.slice none 0 0) 0) #[.int .u8 0, .int .u8 0, .int .u8 0, .int .u8 0, .int .u8 0, .int .u8 0, .int .u8 0, .int .u8 0, .int .u8 0, .int .u8 0, .int .u8 0, .int .u8 0, .int .u8 0, .int .u8 0, .int .u8 0, .int .u8 0, .int .u64 0, .slice none 0 0, .slice none 0 0, .int .i64 0] 44 rfl
   have hbA := (Below.refl wr.heap.size wr).alloc (Nat.le_refl _) (.cells #[.int .u8 0, .int .u8 0, .int .u8 0, .int .u8 0, .int .u8 0, .int .u8 0, .int .u8 0, .int .u8 0, .int .u8 0, .int .u8 0, .int .u8 0, .int .u8 0, .int .u8 0, .int .u8 0, .int .u8 0, .int .u8 0, .int .u64 0, .slice none 0 0, .slice none 0 0, .int .i64 0] 44)
   have hst := hN.storeE (id := id) (time := time) (code := code) (pu := .slice A n c) (sh := .slice A' n' c') z16_length HID.out rfl rfl
   refine wpList_skipD rfl rfl (exec_store rfl (by kernel_rfl) (by kernel_rfl) hst) ?_
   replace hN := hN.setE (id := id) (time := time) (code := code) (pu := .slice A n c) (sh := .slice A' n' c') z16_length HID.out
   have hbC := bl_setCells hbA (Nat.le_refl _) 0 (entL id time (.slice A n c) (.slice A' n' c') code)
   replace hbw := bl_call hbw (Nat.le_refl _) hbC
   replace hE := hE.call hbC
   clear hst hbA hbC
   generalize (wr.alloc (.cells #[.int .u8 0, .int .u8 0, .int .u8 0, .int .u8 0, .int .u8 0, .int .u8 0, .int .u8 0, .int .u8 0, .int .u8 0, .int .u8 0, .int .u8 0, .int .u8 0, .int .u8 0, .int .u8 0, .int .u8 0, .int .u8 0, .int .u64 0, .slice none 0 0, .slice none 0 0, .int .i64 0] 44)).setCells wr.heap.size 0 (entL id time (.slice A n c) (.slice A' n' c') code) = w3 at hN hE hbw ⊢
   go_upto_region 12 with fail
   refine wp_region_lit ?_
   refine wpList_valD (some 70) rfl rfl (exec_load rfl (by kernel_rfl) (hN.loadE HID.out)) ?_
   simp only [Zp, Zq, Zr, Zs]
   refine wpList_callD (some 71) rfl rfl 87 _ ?_ (HCE.out _) ?_
   ·go_simp; try (with_reducible rfl)
   rintro e w4 ⟨rfl, hb4⟩
   refine ⟨_, rfl, ?_⟩
   simp only [Zp, Zq, Zr, Zs]
   replace hbw := bl_call hbw (Nat.le_refl _) hb4
   replace hE := hE.call hb4
   clear hb4 hN
   refine wpList_valD (some 5) rfl rfl (by (go_simp; first | with_reducible rfl | exact ⟨rfl, rfl⟩ | (trace_state; fail))) ?_
   simp only [Zp, Zq, Zr, Zs]
   by_cases he : ec = 0
   ·have h2 : (ec != 0) = false := by simpa using he
    have HEE := Lib.hid he
    clear he
    go_wp2_with fail
    go_roundw
    case rel => exact ⟨1, by omega, by go_num, Lib.hid fun _ => HEE.out, hE, hbw⟩
    case measure => simp [intOf]
   ·have h2 : (ec != 0) = true := by simpa using he
    clear he
    go_wp2_with fail
    go_ret
    exact ⟨rfl, hbw⟩
  ·obtain rfl : k = 1 := by omega
   obtain rfl : ec = 0 := HK.out rfl
   go_wp2_with fail
   go_ret
   exact ⟨rfl, hbw⟩

end Go.Proofs.Ytbakkmfjamcbfaa

namespace Go.Proofs.Ytbakkmfjamcbfaa
open Go.RowKit Fm
set_option linter.unusedVariables false
set_option maxRecDepth 100000

section
variable {w : World} {b : Nat} {num start m due wait m' : Int} {has : Bool} {v v' : Value} {k k' : List Int}
theorem Vs.askStore (hk : k.length = 16) (hk' : k'.length = 16) (hv' : v'.oneCell' = true) (h : Vs w b (askL num start has v m k due wait)) : (Instr.storeAt 76 (.pointer (some ⟨b, 3, none⟩)) (.agg (totL v' m' k').toArray)).run Try.prog w = .ok () (w.setCells b 3 (totL v' m' k')) := by
 unfold askL at h
 exact store_P h (by rw [totL_length _ _ hk, totL_length _ _ hk']) (by rw [totL_length _ _ hk']; exact size_total) (totL_one hv' _ _)
theorem Vs.askSet (hk : k.length = 16) (hk' : k'.length = 16) (h : Vs w b (askL num start has v m k due wait)) : Vs (w.setCells b 3 (totL v' m' k')) b (askL num start has v' m' k' due wait) := by
 unfold askL at h ⊢
 exact Vs.setP (p := [.int .u64 num, .int .u64 start, .bool has]) h (by rw [totL_length _ _ hk, totL_length _ _ hk'])
end
theorem load_colT {w : World} {c : Nat} {kk f b l m cc p : Int} {s : ByteArray} {nowv qv res : Value} {nx : Int} (h : Vs w c (colL (tkL kk f b l m cc p s) nowv qv nx res)) : (Instr.loadAt 62 (.pointer (some ⟨c, 0, none⟩))).run Try.prog w = .ok (.agg #[.int .u8 kk, .int .u8 f, .int .i64 b, .int .i64 l, .int .i64 m, .int .i64 cc, .int .i64 p, .string s]) w := by
 have h9 : Vs w c ([] ++ tkL kk f b l m cc p s ++ [nowv, qv, .int .u64 nx, res]) := h
 exact load_P h9 Try.underlying62 rfl (by kernel_rfl)
theorem field_let {k : List Int} (num start : Int) (has : Bool) (m : Int) (w : World) : (Instr.field 127 (.agg (letK num start has m k).toArray) 0).run Try.prog w = .ok (.int .i64 (if has then 1 else 0)) w := by
 cases has <;> kernel_rfl
theorem askS_ne {w : World} {O : Nat → Prop} {c a : Nat} {tk : List Value} {nx : Int} {qs : List Int} {rs : List ResK} {num start : Int} {has : Bool} {v : Value} {m : Int} {k : List Int} {due wait : Int} (h : AskS w O c a tk nx qs rs num start has v m k due wait) : ∃ qv res, Vs w c (colL tk (.pointer (some ⟨a, 0, none⟩)) qv nx res) ∧ c < w.heap.size ∧ a < w.heap.size := by
 obtain ⟨A, R, cp, rp, vs, h1, _⟩ := h.col.ex
 exact ⟨_, _, h1, h1.lt, h.ask.lt⟩

def RvT (w0 : World) (o1 : Option (Option Addr × Nat)) (o2 : Option Nat) (w : World) : Prop := Below w0.heap.size w0 w
structure RvK (w0 : World) (n : Nat) (zs : List Value) (L : Option Addr × Nat → List Value) (o1 : Option (Option Addr × Nat)) (o2 : Option Nat) (s : Bool) (w : World) : Prop where
 t : Below w0.heap.size w0 w
 a : ∀ p, o1 = some p → w.ownsRow w0.heap.size 99 2 (.slice p.1 n p.2) n zs
 b : ∀ x, o2 = some x → w0.heap.size ≤ x ∧ (s = false → Vs w x (totL (.slice none 0 0) 0 z16)) ∧ (s = true → ∀ p, o1 = some p → Vs w x (L p))
 c : ∀ p x, o1 = some p → o2 = some x → ∀ g, (Value.slice p.1 n p.2).ownBlock = some g → g ≠ x
section
variable {w0 w w' : World} {n : Nat} {zs : List Value} {L : Option Addr × Nat → List Value} {o1 : Option (Option Addr × Nat)} {o2 : Option Nat} {s : Bool}
theorem RvK.weak (o1 : Option (Option Addr × Nat)) (o2 : Option Nat) (s : Bool) (w : World) (h : RvK w0 n zs L o1 o2 s w) : RvT w0 o1 o2 w := h.t
theorem RvK.clo : Clo (RvK w0 n zs L o1 o2 s) := fun w w' h hb => ⟨bl_call h.t (Nat.le_refl _) hb, fun p e => own_call (h.a p e) hb, fun x e => ⟨(h.b x e).1, fun e2 => ((h.b x e).2.1 e2).call hb, fun e2 p e3 => ((h.b x e).2.2 e2 p e3).call hb⟩, h.c⟩
theorem RvK.start (w0 : World) : RvK w0 n zs L none none false w0.drew := ⟨(Below.refl _ _).drew, fun _ e => (by cases e), fun _ e => (by cases e), fun _ _ e => (by cases e)⟩
theorem RvK.mk1 {p : Option Addr × Nat} (h : RvK w0 n zs L none o2 false w) (ho : w'.ownsRow w.heap.size 99 2 (.slice p.1 n p.2) n zs) (hb : Below w.heap.size w w') : RvK w0 n zs L (some p) o2 false w' := by
 have h2 := RvK.clo _ _ h hb
 refine ⟨h2.t, fun p2 e => ?_, fun x e => ⟨(h2.b x e).1, (h2.b x e).2.1, fun e2 => (by cases e2)⟩, fun p2 x e e2 g hg => ?_⟩
 ·injection e with e
  subst e
  exact own_lower ho h.t.size
 ·injection e with e
  subst e
  have h3 := (ho.lt g hg).1
  have h4 := ((h.b x e2).2.1 rfl).lt
  omega
theorem RvK.mk2 {cs : Array Value} {t : TypeId} (h : RvK w0 n zs L o1 none false w) (hc : cs = (totL (.slice none 0 0) 0 z16).toArray) : RvK w0 n zs L o1 (some w.heap.size) false (w.alloc (.cells cs t)) := by
 have h2 := RvK.clo _ _ h ((Below.refl w.heap.size w).alloc (Nat.le_refl _) (.cells cs t))
 refine ⟨h2.t, h2.a, fun x e => ?_, fun p x e e2 g hg => ?_⟩
 ·injection e with e
  subst e
  exact ⟨h.t.size, fun _ => Vs.new w _ cs t hc, fun e => (by cases e)⟩
 ·injection e2 with e2
  subst e2
  have := ((h.a p e).lt g hg).2
  omega
theorem RvK.put {p : Option Addr × Nat} {x : Nat} (h : RvK w0 n zs L (some p) (some x) false w) (hl : (L p).length = 18) : RvK w0 n zs L (some p) (some x) true (w.setCells x 0 (L p)) := by
 obtain ⟨h1, h2, _⟩ := h.b x rfl
 have hv := h2 rfl
 have he : Exc (fun q => q = x) w.heap.size w (w.setCells x 0 (L p)) := exc_setCells (S := fun q => q = x) x rfl _ 0 w (exc_of (Below.refl _ _))
 refine ⟨bl_setCells h.t h1 _ _, fun p2 e => ?_, fun x2 e => ?_, h.c⟩
 ·injection e with e
  subst e
  exact own_other (h.a p rfl) he (fun g hg e => h.c p x rfl rfl g hg e)
 ·injection e with e
  subst e
  refine ⟨h1, fun e => (by cases e), fun _ p2 e => ?_⟩
  injection e with e
  subst e
  exact hv.setW (by rw [hl, totL_length _ _ z16_length])
end

def RetUn (ns : Nat) (xs : List Int) (code : Int) (w : World) (e : Ending) (w' : World) : Prop :=
 ∃ q : Option Addr × Nat, e = .returned (.tuple #[.slice q.1 ns q.2, .int .i64 code]) ∧ w'.ownsRow w.heap.size 22 1 (.slice q.1 ns q.2) ns (cellsU xs) ∧ Below w.heap.size w w'
def UsT (w0 : World) (o : Option (Option Addr × Nat)) (w : World) : Prop := Below w0.heap.size w0 w
structure UsK (w0 : World) (n : Nat) (xs : List Int) (o : Option (Option Addr × Nat)) (w : World) : Prop where
 t : Below w0.heap.size w0 w
 a : ∀ p, o = some p → w.ownsRow w0.heap.size 22 1 (.slice p.1 n p.2) n (cellsU xs)
section
variable {w0 w w' : World} {n : Nat} {xs : List Int} {o : Option (Option Addr × Nat)}
theorem UsK.weak (o : Option (Option Addr × Nat)) (w : World) (h : UsK w0 n xs o w) : UsT w0 o w := h.t
theorem UsK.clo : Clo (UsK w0 n xs o) := fun w w' h hb => ⟨bl_call h.t (Nat.le_refl _) hb, fun p e => own_call (h.a p e) hb⟩
theorem UsK.start (w0 : World) : UsK w0 n xs none w0.drew := ⟨(Below.refl _ _).drew, fun _ e => (by cases e)⟩
theorem UsK.took (h : UsK w0 n xs none w) {p : Option Addr × Nat} (ho : w'.ownsRow w.heap.size 22 1 (.slice p.1 n p.2) n (cellsU xs)) (hb : Below w.heap.size w w') : UsK w0 n xs (some p) w' := by
 refine ⟨bl_call h.t (Nat.le_refl _) hb, fun p e => ?_⟩
 injection e with e
 subst e
 exact own_lower ho h.t.size
end

end Go.Proofs.Ytbakkmfjamcbfaa

namespace Go.Proofs.Ytbakkmfjamcbfaa
open Go.RowKit Fm
set_option linter.unusedVariables false
set_option maxRecDepth 100000


set_option maxHeartbeats 16000000 in
theorem collect_RecvA
  {f : Nat} (hf : IsF f) (kk b l m cc p : Int) (s : ByteArray) (n : Nat) (hn : n ≤ 1000) (M : Nat) (hM : M = n * sizeK f)
    (HC : ∀ wz, Calls Try.prog 43 #[.agg #[.int .u8 kk, .int .u8 f, .int .i64 b, .int .i64 l, .int .i64 m, .int .i64 cc, .int .i64 p, .string s]] wz (RetC 0 wz))
    (HO : ∀ wz, Calls Try.prog 32 #[.agg #[.int .u8 kk, .int .u8 f, .int .i64 b, .int .i64 l, .int .i64 m, .int .i64 cc]] wz (RetI n wz))
    (O : Nat → Prop) (c a : Nat) (nx : Int) (qs : List Int) (rs : List ResK) (num start : Int) (fv : Value) (fm : Int) (fk : List Int) (due wait now : Int)
    (N : Nat) (K : List Int) (S : KL f) (As : Option Addr) (cs eb ce : Nat) (w : World) (hN : N ≤ 256) (hK : K.length = 16) (hK8 : B8 K) (hS : S.length = n) (hnum : 0 ≤ num ∧ num ≤ 1099511627776) (hst : 0 ≤ start ∧ start ≤ 1099511627776)
    (hb : SlB w As (putB N K S) cs) (hE : Vs w eb (entL z16 0 (.slice none 0 0) (.slice As (20 + M) cs) 0))
  (h : AskS w O c a (tkL kk f b l m cc p s) nx qs rs num start false fv fm fk due wait) (hnow : 0 ≤ now ∧ now ≤ 1099511627776) :
  Calls Try.prog 46 #[.pointer (some ⟨c, 0, none⟩), .int .u64 now, .int .i64 0, .agg (msgL 6 num start (N : Int) K 0 (.slice (some ⟨eb, 0, none⟩) 1 ce)).toArray] w fun e w' => ∃ (g : Nat) (A1 : Option Addr) (c1 : Nat), e = .returned (.tuple #[.slice (some ⟨g, 0, none⟩) 1 1, .int .i64 0]) ∧ Vs w' g (letK num start true (N : Int) K) ∧ AskS w' O c a (tkL kk f b l m cc p s) nx qs rs num start true (.slice A1 n c1) (N : Int) K (now + 1) 1 ∧ w'.ownsRow w.heap.size 99 2 (.slice A1 n c1) n (cellsE (esK S)) ∧ Exc (fun q => q = a) w.heap.size w w' := by
 have hK16 := h.k16
 have hL : (putB N K S).length = 20 + M := by
  rw [hM]
  exact (putB_parts N K S n hK hS (by omega)).1
 have hM9 : M ≤ 16000 := by
  have hz : sizeK f ≤ 16 := by unfold sizeK; split <;> omega
  rw [hM]
  exact Nat.le_trans (Nat.mul_le_mul hn hz) (by omega)
 have HCK := Lib.hid (fun wz (he : Vs wz eb (entL z16 0 (.slice none 0 0) (.slice As (20 + M) cs) 0)) => msg_Check6 num start (N : Int) 0 K hK ⟨hnum.2, hst.2, by omega, by omega, by omega, by omega⟩ z16 z16_length 0 0 none As 0 0 (20 + M) cs eb ce wz he)
 rw [show entC 0 0 0 (20 + M) = 0 by unfold entC; rw [if_neg (by omega), if_neg (by omega)]] at HCK
 have HTK : Hid (∀ wz, SlB wz As (putB N K S) cs → Calls Try.prog 42 #[.agg #[.int .u8 kk, .int .u8 f, .int .i64 b, .int .i64 l, .int .i64 m, .int .i64 cc, .int .i64 p, .string s], .slice As (20 + M) cs] wz fun e w' => ∃ (A1 : Option Addr) (c1 : Nat), e = .returned (.tuple #[.agg (totL (.slice A1 n c1) (N : Int) K).toArray, .int .i64 0]) ∧ w'.ownsRow wz.heap.size 99 2 (.slice A1 n c1) n (cellsE (esK S)) ∧ Below wz.heap.size wz w') := fun wz hz => by
  have h1 := total_Take hf kk b l m cc p s n (by omega) M hM (putB N K S) (putB_b8 N K S hK8) HC HO As cs wz hz.1 hz.2
  rw [hL] at h1
  exact h1.mono fun e w' hr => take_same hf hM hK hS hN hr
 have HK := Lib.hid hK
 have HKF := Lib.hid hK16
 have HH := Lib.hid h
 have HSB := Lib.hid hb
 have hEb := hE.lt
 obtain ⟨qv, res, hV, hcl, hal⟩ := askS_ne h
 have hA := h.ask
 have HNE := Lib.hid h.o.2
 have ht8 : (tkL kk f b l m cc p s).length = 8 := rfl
 have HT8 := Lib.hid ht8
 have HEQ : Hid (∀ wz, (Op.equalIn 10000 74 (.agg (cells8 K).toArray) (.agg (cells8 K).toArray)).run Try.prog wz = .ok true wz) := fun wz => by
  rw [run_equalIn_16 9998 Try.underlying74 hK hK]
  simp
 obtain ⟨L, hLL⟩ : ∃ z, 20 + M = z := ⟨_, rfl⟩
 rw [hLL] at HCK HTK hE hL
 have hL9 : L ≤ 20000 := by omega
 clear hLL hM HC HO hb hK hK16 hK8 hS hL h ht8
 generalize putB N K S = BS at *
 have hNi : (0 : Int) ≤ (N : Int) ∧ (N : Int) ≤ 256 := by omega
 go_enter Try.func46, Try.ntmps46
 go_upto_region 1 with fail
 have hM := Vs.new w (msgL 6 num start (N : Int) K 0 (.slice (some ⟨eb, 0, none⟩) 1 ce)) ((msgL 6 num start (N : Int) K 0 (.slice (some ⟨eb, 0, none⟩) 1 ce)).toArray) 27 rfl
 have hb00 : Below w.heap.size w (w.alloc (.cells (msgL 6 num start (N : Int) K 0 (.slice (some ⟨eb, 0, none⟩) 1 ce)).toArray 27)) := by repeat (first | exact bA | with_reducible assumption | apply bB)
 have hszn : w.heap.size + 1 ≤ (w.alloc (.cells (msgL 6 num start (N : Int) K 0 (.slice (some ⟨eb, 0, none⟩) 1 ce)).toArray 27)).heap.size := by simp only [World.size_alloc]; omega
 generalize (w.alloc (.cells (msgL 6 num start (N : Int) K 0 (.slice (some ⟨eb, 0, none⟩) 1 ce)).toArray 27)) = w1 at hM hb00 hszn ⊢
 obtain ⟨mb, hmb⟩ : ∃ z, w.heap.size = z := ⟨_, rfl⟩
 have hmb1 : a < mb ∧ c < mb ∧ eb < mb := by
  rw [← hmb]
  exact ⟨hal, hcl, hEb⟩
 replace hV := hV.call hb00
 replace hA := hA.call hb00
 replace hE := hE.call hb00
 rw [hmb] at hM
 simp only [hmb]
 have hmbw := Lib.hid hmb
 clear hmb
 go_upto_region 3 with fail
 have hck := HCK.out w1 hE
 refine wp_region_lit ?_
 refine wpList_valD (some 18) rfl rfl (exec_load rfl (by kernel_rfl) (hM.loadM HK.out)) ?_
 simp only [Zp, Zq, Zr, Zs]
 refine wpList_callD (some 19) rfl rfl 49 _ ?_ (hck) ?_
 ·go_simp; try (with_reducible rfl)
 rintro e w2 ⟨rfl, hb2⟩
 refine ⟨_, rfl, ?_⟩
 simp only [Zp, Zq, Zr, Zs]
 replace hb00 := bl_call hb00 (Nat.le_refl _) hb2
 replace hV := hV.call hb2
 replace hA := hA.call hb2
 replace hE := hE.call hb2
 replace hM := hM.call hb2
 clear hb2 hck
 refine wpList_valD (some 10) rfl rfl (by (go_simp; first | with_reducible rfl | exact ⟨rfl, rfl⟩ | (trace_state; fail))) ?_
 simp only [Zp, Zq, Zr, Zs]
 obtain ⟨c8, c9, c10, c11, f8, f9, f10, hcl2⟩ := hV.col HT8.out
 obtain ⟨a0, a1, a2, a4, a21, a22, hal2⟩ := hA.askC HKF.out
 obtain ⟨m0, m1, m2, m3, m4, m5, m6, m7⟩ := hM.msg HK.out
 go_upto_region 9 with fail
 have HL9 : Hid (∀ wz, Below w2.heap.size w2 wz → Calls Try.prog 84 #[.pointer (some ⟨c, 0, none⟩)] wz fun e w' => e = .returned (.agg (letK num start false fm fk).toArray) ∧ Below wz.heap.size wz w') := Lib.hid fun wz hbz => collect_letG _ HT8.out nx qv res c a num start false fv fm fk HKF.out due wait wz (hV.call hbz) (hA.call hbz)
 have HFL : ∀ wz, (Instr.field 127 (.agg (letK num start false fm fk).toArray) 0).run Try.prog wz = .ok (.int .i64 0) wz := fun wz => field_let num start false fm wz
 refine region_G (n := 27) (m := 28) (f := 27) (by kernel_rfl) (by kernel_rfl) rfl ?_
 refine WpG.vD 0 (some 32) ?_ rfl rfl (by kernel_rfl) (fun _ _ _ h => h) rfl (fun wz hwz => ?_) ?_
 rotate_left
 ·go_simp; try (with_reducible rfl)
 simp only [Zp, Zq, Zr, Zs]
 refine WpG.vD 1 (some 33) ?_ rfl rfl (by kernel_rfl) (fun _ _ _ h => h) rfl (fun wz hwz => ?_) ?_
 rotate_left
 ·go_simp; try (with_reducible rfl)
 simp only [Zp, Zq, Zr, Zs]
 refine WpG.vD 2 (some 34) ?_ rfl rfl (by kernel_rfl) (fun _ _ _ h => h) rfl (fun wz hwz => ?_) ?_
 rotate_left
 ·go_simp; try (with_reducible rfl)
 simp only [Zp, Zq, Zr, Zs]
 refine WpG.vD 3 (some 35) ?_ rfl rfl (by kernel_rfl) (fun _ _ _ h => h) rfl (fun wz hwz => ?_) ?_
 rotate_left
 ·go_simp; try (with_reducible rfl)
 simp only [Zp, Zq, Zr, Zs]
 refine WpG.vD 4 (some 36) ?_ rfl rfl (by kernel_rfl) (fun _ _ _ h => h) rfl (fun wz hwz => ?_) ?_
 rotate_left
 ·(obtain ⟨hcz, hfz⟩ := bcell (hwz); go_simp; try (with_reducible rfl))
 simp only [Zp, Zq, Zr, Zs]
 refine WpG.vD 5 (some 37) ?_ rfl rfl (by kernel_rfl) (fun _ _ _ h => h) rfl (fun wz hwz => ?_) ?_
 rotate_left
 ·go_simp; try (with_reducible rfl)
 simp only [Zp, Zq, Zr, Zs]
 refine WpG.vD 6 (some 38) ?_ rfl rfl (by kernel_rfl) (fun _ _ _ h => h) rfl (fun wz hwz => ?_) ?_
 rotate_left
 ·go_simp; try (with_reducible rfl)
 simp only [Zp, Zq, Zr, Zs]
 refine WpG.vD 7 (some 39) ?_ rfl rfl (by kernel_rfl) (fun _ _ _ h => h) rfl (fun wz hwz => ?_) ?_
 rotate_left
 ·go_simp; try (with_reducible rfl)
 simp only [Zp, Zq, Zr, Zs]
 refine WpG.vD 8 (some 40) ?_ rfl rfl (by kernel_rfl) (fun _ _ _ h => h) rfl (fun wz hwz => ?_) ?_
 rotate_left
 ·(obtain ⟨hcz, hfz⟩ := bcell (hwz); go_simp; try (with_reducible rfl))
 simp only [Zp, Zq, Zr, Zs]
 refine WpG.vD 9 (some 41) ?_ rfl rfl (by kernel_rfl) (fun _ _ _ h => h) rfl (fun wz hwz => ?_) ?_
 rotate_left
 ·go_simp; try (with_reducible rfl)
 simp only [Zp, Zq, Zr, Zs]
 refine WpG.vD 10 (some 42) ?_ rfl rfl (by kernel_rfl) (fun _ _ _ h => h) rfl (fun wz hwz => ?_) ?_
 rotate_left
 ·go_simp; try (with_reducible rfl)
 simp only [Zp, Zq, Zr, Zs]
 refine WpG.vD 11 (some 43) ?_ rfl rfl (by kernel_rfl) (fun _ _ _ h => h) rfl (fun wz hwz => ?_) ?_
 rotate_left
 ·go_simp; try (with_reducible rfl)
 simp only [Zp, Zq, Zr, Zs]
 refine WpG.vD 12 (some 44) ?_ rfl rfl (by kernel_rfl) (fun _ _ _ h => h) rfl (fun wz hwz => ?_) ?_
 rotate_left
 ·go_simp; try (with_reducible rfl)
 simp only [Zp, Zq, Zr, Zs]
 refine WpG.vD 13 (some 45) ?_ rfl rfl (by kernel_rfl) (fun _ _ _ h => h) rfl (fun wz hwz => ?_) ?_
 rotate_left
 ·(obtain ⟨hcz, hfz⟩ := bcell (hwz); go_simp; try (with_reducible rfl))
 simp only [Zp, Zq, Zr, Zs]
 refine WpG.vD 14 (some 46) ?_ rfl rfl (by kernel_rfl) (fun _ _ _ h => h) rfl (fun wz hwz => ?_) ?_
 rotate_left
 ·go_simp; try (with_reducible rfl)
 simp only [Zp, Zq, Zr, Zs]
 refine WpG.vD 15 (some 47) ?_ rfl rfl (by kernel_rfl) (fun _ _ _ h => h) rfl (fun wz hwz => ?_) ?_
 rotate_left
 ·go_simp; try (with_reducible rfl)
 simp only [Zp, Zq, Zr, Zs]
 refine WpG.vD 16 (some 48) ?_ rfl rfl (by kernel_rfl) (fun _ _ _ h => h) rfl (fun wz hwz => ?_) ?_
 rotate_left
 ·go_simp; try (with_reducible rfl)
 simp only [Zp, Zq, Zr, Zs]
 refine WpG.vD 17 (some 49) ?_ rfl rfl (by kernel_rfl) (fun _ _ _ h => h) rfl (fun wz hwz => ?_) ?_
 rotate_left
 ·(obtain ⟨hcz, hfz⟩ := bcell (hwz); go_simp; try (with_reducible rfl))
 simp only [Zp, Zq, Zr, Zs]
 refine WpG.vD 18 (some 50) ?_ rfl rfl (by kernel_rfl) (fun _ _ _ h => h) rfl (fun wz hwz => ?_) ?_
 rotate_left
 ·go_simp; try (with_reducible rfl)
 simp only [Zp, Zq, Zr, Zs]
 refine WpG.vD 19 (some 51) ?_ rfl rfl (by kernel_rfl) (fun _ _ _ h => h) rfl (fun wz hwz => ?_) ?_
 rotate_left
 ·go_simp; try (with_reducible rfl)
 simp only [Zp, Zq, Zr, Zs]
 refine WpG.vD 20 (some 52) ?_ rfl rfl (by kernel_rfl) (fun _ _ _ h => h) rfl (fun wz hwz => ?_) ?_
 rotate_left
 ·go_simp; try (with_reducible rfl)
 simp only [Zp, Zq, Zr, Zs]
 refine WpG.vD 21 (some 53) ?_ rfl rfl (by kernel_rfl) (fun _ _ _ h => h) rfl (fun wz hwz => ?_) ?_
 rotate_left
 ·go_simp; try (with_reducible rfl)
 simp only [Zp, Zq, Zr, Zs]
 refine WpG.vD 22 (some 54) ?_ rfl rfl (by kernel_rfl) (fun _ _ _ h => h) rfl (fun wz hwz => ?_) ?_
 rotate_left
 ·go_simp; try (with_reducible rfl)
 simp only [Zp, Zq, Zr, Zs]
 refine WpG.takeD 23 (some 55) rfl rfl (by kernel_rfl) (fun _ _ _ h => h) (.call rfl (fun wz hwz => HL9.out wz (hwz)) (fun wz hwz => ?_)) ?_
 ·go_simp; try (with_reducible rfl)
 simp only [Zp, Zq, Zr, Zs]
 refine WpG.vD 24 (some 56) ?_ rfl rfl (by kernel_rfl) (fun _ _ _ h => h) rfl (fun wz hwz => ?_) ?_
 rotate_left
 ·(obtain ⟨hcz, hfz⟩ := bcell (hwz); have q := HFL wz; go_simp; try (with_reducible rfl))
 simp only [Zp, Zq, Zr, Zs]
 refine WpG.vD 25 (some 57) ?_ rfl rfl (by kernel_rfl) (fun _ _ _ h => h) rfl (fun wz hwz => ?_) ?_
 rotate_left
 ·go_simp; try (with_reducible rfl)
 simp only [Zp, Zq, Zr, Zs]
 refine WpG.vD 26 (some 58) ?_ rfl rfl (by kernel_rfl) (fun _ _ _ h => h) rfl (fun wz hwz => ?_) ?_
 rotate_left
 ·go_simp; try (with_reducible rfl)
 simp only [Zp, Zq, Zr, Zs]
 refine WpG.done (by kernel_rfl) (fun w3 hb3 => ?_)
 (try simp only [List.drop_succ_cons]); (try simp only [List.drop_zero]); (try simp only [Nat.reduceSub]); (try simp only [List.take_succ_cons]); (try simp only [List.take_zero])
 clear c8 c9 c10 c11 f8 f9 f10 hcl2 a0 a1 a2 a4 a21 a22 hal2 m0 m1 m2 m3 m4 m5 m6 m7 HL9 HFL
 replace hb00 := bl_call hb00 (Nat.le_refl _) hb3
 replace hV := hV.call hb3
 replace hA := hA.call hb3
 replace hE := hE.call hb3
 replace hM := hM.call hb3
 clear hb3
 obtain ⟨m0, m1, m2, m3, m4, m5, m6, m7⟩ := hM.msg HK.out
 go_upto_region 18 with fail
 have hSB3 := HSB.out.later hb00
 have e18 := hE.cell 18 _ rfl
 have hV3 := Lib.hid hV
 have hE3 := Lib.hid hE
 have hM3 := Lib.hid hM
 clear m0 m1 m2 m3 m4 m5 m6 m7 e18
 apply region_Z2 (n := 15) (m := 16) (f := 15) (fun x0 x1 => (RvK w3 n (cellsE (esK S)) (fun p => totL (.slice p.1 n p.2) (N : Int) K)) (some x0) (some x1) true) ((RvT w3) none none) ((RvK w3 n (cellsE (esK S)) (fun p => totL (.slice p.1 n p.2) (N : Int) K)) none none false) ((RvK.weak _ _ _)) (RvK.clo) ((RvK.start w3))
 case hm => kernel_rfl
 case hB => kernel_rfl
 case hf => rfl
 case' h =>
  refine WpX.vD 0 (some 82) ?_ rfl rfl (by kernel_rfl) (fun _ _ _ h => h) rfl (fun wz hwz => ?_) ?_
  rotate_left
  ·go_simp; try (with_reducible rfl)
  simp only [Zp, Zq, Zr, Zs]
  refine WpX.vD 1 (some 83) ?_ rfl rfl (by kernel_rfl) (fun _ _ _ h => h) rfl (fun wz hwz => ?_) ?_
  rotate_left
  ·go_simp; try (with_reducible rfl)
  simp only [Zp, Zq, Zr, Zs]
  refine WpX.vD 2 (some 84) ?_ rfl rfl (by kernel_rfl) (fun _ _ _ h => h) rfl (fun wz hwz => ?_) ?_
  rotate_left
  ·go_simp; try (with_reducible rfl)
  simp only [Zp, Zq, Zr, Zs]
  refine WpX.vD 3 (some 85) ?_ rfl rfl (by kernel_rfl) (fun _ _ _ h => h) rfl (fun wz hwz => ?_) ?_
  rotate_left
  ·(refine Eq.trans (exec_load rfl (by kernel_rfl) (load_colT (hV3.out.call hwz))) ?_; with_reducible rfl)
  simp only [Zp, Zq, Zr, Zs]
  refine WpX.vD 4 (some 86) ?_ rfl rfl (by kernel_rfl) (fun _ _ _ h => h) rfl (fun wz hwz => ?_) ?_
  rotate_left
  ·go_simp; try (with_reducible rfl)
  simp only [Zp, Zq, Zr, Zs]
  refine WpX.vD 5 (some 87) ?_ rfl rfl (by kernel_rfl) (fun _ _ _ h => h) rfl (fun wz hwz => ?_) ?_
  rotate_left
  ·(have q := ((hM3.out.call hwz).msg HK.out).2.2.2.2.2.1; have q2 := (hM3.out.call hwz).lt; go_simp; try (with_reducible rfl))
  simp only [Zp, Zq, Zr, Zs]
  refine WpX.vD 6 (some 88) ?_ rfl rfl (by kernel_rfl) (fun _ _ _ h => h) rfl (fun wz hwz => ?_) ?_
  rotate_left
  ·go_simp; try (with_reducible rfl)
  simp only [Zp, Zq, Zr, Zs]
  refine WpX.vD 7 (some 89) ?_ rfl rfl (by kernel_rfl) (fun _ _ _ h => h) rfl (fun wz hwz => ?_) ?_
  rotate_left
  ·go_simp; try (with_reducible rfl)
  simp only [Zp, Zq, Zr, Zs]
  refine WpX.vD 8 (some 90) ?_ rfl rfl (by kernel_rfl) (fun _ _ _ h => h) rfl (fun wz hwz => ?_) ?_
  rotate_left
  ·(have q := (hE3.out.call hwz).cell 18 _ rfl; have q2 := (hE3.out.call hwz).lt; go_simp; try (with_reducible rfl))
  simp only [Zp, Zq, Zr, Zs]
  refine WpX.twoD 9 13 (some 91) (some 12) rfl rfl rfl rfl (by kernel_rfl) (fun tp : Option Addr × Nat => Value.tuple #[.agg (totL (.slice tp.1 n tp.2) (N : Int) K).toArray, .int .i64 0]) (fun tp => (RvT w3) (some tp) none) (fun tp => (RvK w3 n (cellsE (esK S)) (fun p => totL (.slice p.1 n p.2) (N : Int) K)) (some tp) none false) (Turns.call rfl (fun _ _ h => h) (fun _ => (RvK.weak _ _ _)) (fun _ => RvK.clo) (fun wz hS => (HTK.out wz (hSB3.later hS.t)).mono fun e w' ⟨A1, c1, he, ho, hb⟩ => ⟨(A1, c1), he, hS.mk1 ho hb⟩) (fun wz hS => by go_simp; try (with_reducible rfl))) (fun xx : Nat => Value.pointer (some ⟨xx, 0, none⟩)) (fun xx => (RvT w3) none (some xx)) (fun xx => (RvK w3 n (cellsE (esK S)) (fun p => totL (.slice p.1 n p.2) (N : Int) K)) none (some xx) false) (Turns.val rfl (fun _ _ h => h) (fun _ => (RvK.weak _ _ _)) (fun _ => RvK.clo) (fun wz hS => ⟨wz.heap.size, wz.alloc (.cells #[.slice none 0 0, .int .i64 0, .int .u8 0, .int .u8 0, .int .u8 0, .int .u8 0, .int .u8 0, .int .u8 0, .int .u8 0, .int .u8 0, .int .u8 0, .int .u8 0, .int .u8 0, .int .u8 0, .int .u8 0, .int .u8 0, .int .u8 0, .int .u8 0] 76), by go_simp; try (with_reducible rfl), hS.mk2 rfl⟩)) (fun tp => ?rz18_18a) (fun xx => ?rz18_18b)
  case' rz18_18a =>
   simp only [Zp, Zq, Zr, Zs]
   refine WpX.vD 10 (some 81) ?_ rfl rfl (by kernel_rfl) (fun _ _ _ h => h) rfl (fun wz hwz => ?_) ?_
   rotate_left
   ·go_simp; try (with_reducible rfl)
   simp only [Zp, Zq, Zr, Zs]
   refine WpX.vD 11 (some 92) ?_ rfl rfl (by kernel_rfl) (fun _ _ _ h => h) rfl (fun wz hwz => ?_) ?_
   rotate_left
   ·go_simp; try (with_reducible rfl)
   simp only [Zp, Zq, Zr, Zs]
   refine WpX.vD 12 (some 93) ?_ rfl rfl (by kernel_rfl) (fun _ _ _ h => h) rfl (fun wz hwz => ?_) ?_
   rotate_left
   ·go_simp; try (with_reducible rfl)
   simp only [Zp, Zq, Zr, Zs]
   refine WpX.oneD 13 (some 12) rfl rfl (by kernel_rfl) (fun xx : Nat => Value.pointer (some ⟨xx, 0, none⟩)) (fun xx => (RvT w3) (some tp) (some xx)) (fun xx => (RvK w3 n (cellsE (esK S)) (fun p => totL (.slice p.1 n p.2) (N : Int) K)) (some tp) (some xx) false) (Turns.val rfl (fun _ _ h => h) (fun _ => (RvK.weak _ _ _)) (fun _ => RvK.clo) (fun wz hS => ⟨wz.heap.size, wz.alloc (.cells #[.slice none 0 0, .int .i64 0, .int .u8 0, .int .u8 0, .int .u8 0, .int .u8 0, .int .u8 0, .int .u8 0, .int .u8 0, .int .u8 0, .int .u8 0, .int .u8 0, .int .u8 0, .int .u8 0, .int .u8 0, .int .u8 0, .int .u8 0, .int .u8 0] 76), by go_simp; try (with_reducible rfl), hS.mk2 rfl⟩)) (fun xx => ?_)
   simp only [Zp, Zq, Zr, Zs]
   refine WpX.oneSkip 14 none rfl rfl (by kernel_rfl) ((RvT w3) (some tp) (some xx)) ((RvK w3 n (cellsE (esK S)) (fun p => totL (.slice p.1 n p.2) (N : Int) K)) (some tp) (some xx) true) (fun _ h => h) ((RvK.weak _ _ _)) (RvK.clo) rfl (fun wz hS => ?_) ?_
   ·(exact ⟨_, exec_store rfl (by kernel_rfl) (by kernel_rfl) (((hS.b xx rfl).2.1 rfl).storeT z16_length HK.out rfl), hS.put (totL_length _ _ HK.out)⟩)
   simp only [Act.put]
   refine WpX.done (by kernel_rfl) (fun w4 hS => ⟨tp, xx, rfl, ?_⟩)
   ·exact hS
  case' rz18_18b =>
   simp only [Zp, Zq, Zr, Zs]
   refine WpX.oneD 9 (some 91) rfl rfl (by kernel_rfl) (fun tp : Option Addr × Nat => Value.tuple #[.agg (totL (.slice tp.1 n tp.2) (N : Int) K).toArray, .int .i64 0]) (fun tp => (RvT w3) (some tp) (some xx)) (fun tp => (RvK w3 n (cellsE (esK S)) (fun p => totL (.slice p.1 n p.2) (N : Int) K)) (some tp) (some xx) false) (Turns.call rfl (fun _ _ h => h) (fun _ => (RvK.weak _ _ _)) (fun _ => RvK.clo) (fun wz hS => (HTK.out wz (hSB3.later hS.t)).mono fun e w' ⟨A1, c1, he, ho, hb⟩ => ⟨(A1, c1), he, hS.mk1 ho hb⟩) (fun wz hS => by go_simp; try (with_reducible rfl))) (fun tp => ?_)
   simp only [Zp, Zq, Zr, Zs]
   refine WpX.vD 10 (some 81) ?_ rfl rfl (by kernel_rfl) (fun _ _ _ h => h) rfl (fun wz hwz => ?_) ?_
   rotate_left
   ·go_simp; try (with_reducible rfl)
   simp only [Zp, Zq, Zr, Zs]
   refine WpX.vD 11 (some 92) ?_ rfl rfl (by kernel_rfl) (fun _ _ _ h => h) rfl (fun wz hwz => ?_) ?_
   rotate_left
   ·go_simp; try (with_reducible rfl)
   simp only [Zp, Zq, Zr, Zs]
   refine WpX.vD 12 (some 93) ?_ rfl rfl (by kernel_rfl) (fun _ _ _ h => h) rfl (fun wz hwz => ?_) ?_
   rotate_left
   ·go_simp; try (with_reducible rfl)
   simp only [Zp, Zq, Zr, Zs]
   refine WpX.oneSkip 14 none rfl rfl (by kernel_rfl) ((RvT w3) (some tp) (some xx)) ((RvK w3 n (cellsE (esK S)) (fun p => totL (.slice p.1 n p.2) (N : Int) K)) (some tp) (some xx) true) (fun _ h => h) ((RvK.weak _ _ _)) (RvK.clo) rfl (fun wz hS => ?_) ?_
   ·(exact ⟨_, exec_store rfl (by kernel_rfl) (by kernel_rfl) (((hS.b xx rfl).2.1 rfl).storeT z16_length HK.out rfl), hS.put (totL_length _ _ HK.out)⟩)
   simp only [Act.put]
   refine WpX.done (by kernel_rfl) (fun w4 hS => ⟨tp, xx, rfl, ?_⟩)
   ·exact hS
 intro tp xx w4 hS
 (try simp only [List.drop_succ_cons]); (try simp only [List.drop_zero]); (try simp only [Nat.reduceSub]); (try simp only [List.take_succ_cons]); (try simp only [List.take_zero])
 obtain ⟨A1, c1⟩ := tp
 have hb4 : Below w3.heap.size w3 w4 := hS.t
 have hX := (hS.b xx rfl).2.2 rfl _ rfl
 have hO := hS.a _ rfl
 have hxx := (hS.b xx rfl).1
 have hone := hS.c _ xx rfl rfl
 dsimp only at hX hO hone ⊢
 have hs3 := hb00.size
 have hmb3 := hM.lt
 replace hb00 := bl_call hb00 (Nat.le_refl _) hb4
 replace hV := hV.call hb4
 replace hA := hA.call hb4
 replace hM := hM.call hb4
 clear hS hb4 hE hE3 hV3 hM3 hSB3 HTK HCK
 go_upto_region 19 with fail
 obtain ⟨x0, x1, x2, x3, x4⟩ := hX.tot
 obtain ⟨m0, m1, m2, m3, m4, m5, m6, m7⟩ := hM.msg HK.out
 refine wp_region_lit ?_
 refine wpList_valD (some 94) rfl rfl (by (go_simp; first | with_reducible rfl | exact ⟨rfl, rfl⟩ | (trace_state; fail))) ?_
 simp only [Zp, Zq, Zr, Zs]
 refine wpList_valD (some 95) rfl rfl (by (go_simp; first | with_reducible rfl | exact ⟨rfl, rfl⟩ | (trace_state; fail))) ?_
 simp only [Zp, Zq, Zr, Zs]
 refine wpList_valD (some 96) rfl rfl (by (go_simp; first | with_reducible rfl | exact ⟨rfl, rfl⟩ | (trace_state; fail))) ?_
 simp only [Zp, Zq, Zr, Zs]
 refine wpList_valG (some 97) rfl (by kernel_rfl) (by (go_simp; first | with_reducible rfl | exact ⟨rfl, rfl⟩ | (trace_state; fail))) ?_
 simp only [Zp, Zq, Zr, Zs]
 refine wpList_valG (some 98) rfl (by kernel_rfl) (by (go_simp; first | with_reducible rfl | exact ⟨rfl, rfl⟩ | (trace_state; fail))) ?_
 simp only [Zp, Zq, Zr, Zs]
 refine wpList_valG (some 99) rfl (by kernel_rfl) (by (go_simp; first | with_reducible rfl | exact ⟨rfl, rfl⟩ | (trace_state; fail))) ?_
 simp only [Zp, Zq, Zr, Zs]
 refine wpList_valG (some 100) rfl (by kernel_rfl) (by (go_simp; first | with_reducible rfl | exact ⟨rfl, rfl⟩ | (trace_state; fail))) ?_
 simp only [Zp, Zq, Zr, Zs]
 refine wpList_valG (some 101) rfl (by kernel_rfl) (by (go_simp; first | with_reducible rfl | exact ⟨rfl, rfl⟩ | (trace_state; fail))) ?_
 simp only [Zp, Zq, Zr, Zs]
 refine wpList_valD (some 102) rfl rfl (by (go_simp; first | with_reducible rfl | exact ⟨rfl, rfl⟩ | (trace_state; fail))) ?_
 simp only [Zp, Zq, Zr, Zs]
 refine wpList_valD (some 103) rfl rfl (by (go_simp; first | with_reducible rfl | exact ⟨rfl, rfl⟩ | (trace_state; fail))) ?_
 simp only [Zp, Zq, Zr, Zs]
 refine wpList_valG (some 104) rfl (by kernel_rfl) (by (go_simp; first | with_reducible rfl | exact ⟨rfl, rfl⟩ | (trace_state; fail))) ?_
 simp only [Zp, Zq, Zr, Zs]
 refine wpList_valG (some 105) rfl (by kernel_rfl) (exec_load rfl (by kernel_rfl) (hX.loadTC HK.out)) ?_
 simp only [Zp, Zq, Zr, Zs]
 refine wpList_valG (some 106) rfl (by kernel_rfl) (by (go_simp; first | with_reducible rfl | exact ⟨rfl, rfl⟩ | (trace_state; fail))) ?_
 simp only [Zp, Zq, Zr, Zs]
 refine wpList_valG (some 107) rfl (by kernel_rfl) (exec_load rfl (by kernel_rfl) (hM.loadMsum HK.out)) ?_
 simp only [Zp, Zq, Zr, Zs]
 refine wpList_valG (some 108) rfl (by kernel_rfl) (by (have q := HEQ.out w4; go_simp; first | with_reducible rfl | exact ⟨rfl, rfl⟩ | (trace_state; fail))) ?_
 simp only [Zp, Zq, Zr, Zs]
 refine wpList_valD (some 109) rfl rfl (by (go_simp; first | with_reducible rfl | exact ⟨rfl, rfl⟩ | (trace_state; fail))) ?_
 simp only [Zp, Zq, Zr, Zs]
 clear x0 x1 x2 x3 x4 m0 m1 m2 m3 m4 m5 m6 m7 HEQ
 obtain ⟨a0, a1, a2, a4, a21, a22, hal2⟩ := hA.askC HKF.out
 go_upto_region 23 with fail
 clear a0 a1 a2 a4 a21 a22 hal2
 have hA4 := Lib.hid hA
 have hX4 := Lib.hid hX
 have hax : a ≠ xx := by omega
 refine region_X (fun wz => Exc (fun q => q = a) w4.heap.size w4 wz) (fun wz => Exc (fun q => q = a) w4.heap.size w4 wz ∧ Vs wz a (askL num start false fv fm fk due wait)) (fun _ h => h.1) (fun _ _ h hb => ⟨h.1.call hb, h.2.call hb⟩) ⟨exc_of ((Below.refl _ _).drew), hA.call ((Below.refl _ _).drew)⟩ (n := 8) (m := 9) (f := 8) (by kernel_rfl) (by kernel_rfl) rfl ?_
 refine WpX.vD 0 (some 122) ?_ rfl rfl (by kernel_rfl) (fun _ _ _ h => h) rfl (fun wz hwz => ?_) ?_
 rotate_left
 ·go_simp; try (with_reducible rfl)
 simp only [Zp, Zq, Zr, Zs]
 refine WpX.vD 1 (some 123) ?_ rfl rfl (by kernel_rfl) (fun _ _ _ h => h) rfl (fun wz hwz => ?_) ?_
 rotate_left
 ·go_simp; try (with_reducible rfl)
 simp only [Zp, Zq, Zr, Zs]
 refine WpX.vD 2 (some 124) ?_ rfl rfl (by kernel_rfl) (fun _ _ _ h => h) rfl (fun wz hwz => ?_) ?_
 rotate_left
 ·(refine Eq.trans (exec_load rfl (by kernel_rfl) ((hX4.out.exc (S := fun q => q = a) (fun e => hax e.symm) hwz).loadT HK.out)) ?_; with_reducible rfl)
 simp only [Zp, Zq, Zr, Zs]
 refine WpX.vD 3 (some 125) ?_ rfl rfl (by kernel_rfl) (fun _ _ _ h => h) rfl (fun wz hwz => ?_) ?_
 rotate_left
 ·go_simp; try (with_reducible rfl)
 simp only [Zp, Zq, Zr, Zs]
 refine WpX.vD 4 (some 126) ?_ rfl rfl (by kernel_rfl) (fun _ _ _ h => h) rfl (fun wz hwz => ?_) ?_
 rotate_left
 ·go_simp; try (with_reducible rfl)
 simp only [Zp, Zq, Zr, Zs]
 refine WpX.oneSkip 5 none rfl rfl (by kernel_rfl) ((fun wz => Exc (fun q => q = a) w4.heap.size w4 wz)) ((fun wz => Exc (fun q => q = a) w4.heap.size w4 wz ∧ Vs wz a (askL num start true fv fm fk due wait))) ((fun _ h => h)) ((fun _ h => h.1)) ((fun _ _ h hb => ⟨h.1.call hb, h.2.call hb⟩)) rfl (fun wz hS => ?_) ?_
 ·((have z0 := hS.2.cell 2 _ rfl; have z1 := (hS.2.askF HKF.out).1; have z2 := hS.2.lt; exact ⟨wz.setCell ⟨a, 2, none⟩ (.bool true), by go_simp; try (with_reducible rfl), exc_sc hS.1 (.inl rfl) 2 _, hS.2.askHas true⟩))
 simp only [Act.put]
 refine WpX.vD 6 (some 127) ?_ rfl rfl (by kernel_rfl) (fun _ _ _ h => h) rfl (fun wz hwz => ?_) ?_
 rotate_left
 ·go_simp; try (with_reducible rfl)
 simp only [Zp, Zq, Zr, Zs]
 refine WpX.vD 7 (some 128) ?_ rfl rfl (by kernel_rfl) (fun _ _ _ h => h) rfl (fun wz hwz => ?_) ?_
 rotate_left
 ·go_simp; try (with_reducible rfl)
 simp only [Zp, Zq, Zr, Zs]
 refine WpX.done (by kernel_rfl) (fun w5 hS => ?_)
 (try simp only [List.drop_succ_cons]); (try simp only [List.drop_zero]); (try simp only [Nat.reduceSub]); (try simp only [List.take_succ_cons]); (try simp only [List.take_zero])
 obtain ⟨hx5, hA5⟩ := hS
 have hst := hA5.askStore (v' := .slice A1 n c1) (m' := (N : Int)) (k' := K) HKF.out HK.out rfl
 have hA6 := hA5.askSet (v' := .slice A1 n c1) (m' := (N : Int)) (k' := K) HKF.out HK.out
 have hx6 : Exc (fun q => q = a) w4.heap.size w4 (w5.setCells a 3 (totL (.slice A1 n c1) (N : Int) K)) := hx5.more (exc_setCells (S := fun q => q = a) a rfl _ 3 w5 (exc_of (Below.refl _ _))) (fun q h => .inl h)
 clear hx5 hA5 hA4 hX4 hX hA hM
 refine wpList_skipD rfl rfl (exec_store rfl (by kernel_rfl) (by kernel_rfl) hst) ?_
 clear hst
 generalize w5.setCells a 3 (totL (.slice A1 n c1) (N : Int) K) = w6 at hA6 hx6 ⊢
 have hwn : IntKind.u64.wrap (now + 1) = now + 1 := IntWalk.u64_in _ (by omega)
 obtain ⟨a0, a1, a2, a4, a21, a22, hal2⟩ := hA6.askC HK.out
 obtain ⟨g2, g21, g22⟩ := hA6.askF HK.out
 go_upto_region 25 with fail
 clear a0 a1 a2 a4 a21 a22 hal2 g2 g21 g22
 have hA8 := (hA6.askDue HK.out (now + 1)).askWait HK.out 1
 have hx8 := exc_sc (exc_sc hx6 (.inl rfl) 21 (.int .u64 (now + 1))) (.inl rfl) 22 (.int .u64 1)
 clear hA6 hx6
 generalize (w6.setCell ⟨a, 21, none⟩ (.int .u64 (now + 1))).setCell ⟨a, 22, none⟩ (.int .u64 1) = w8 at hA8 hx8 ⊢
 have hV8 := hV.exc (S := fun q => q = a) (fun e => HNE.out e.symm) hx8
 have hO8 := own_other hO hx8 (fun g hg e => by
  have := (hO.lt g hg).1
  omega)
 have hL := collect_letG _ HT8.out nx qv res c a num start true (.slice A1 n c1) (N : Int) K HK.out (now + 1) 1 w8 hV8 hA8
 have hxx8 : Exc (fun q => q = a) w.heap.size w w8 := (exc_of hb00).trans (hx8.mono hb00.size)
 clear hV hO hx8 hb00 hxx
 refine wp_region_lit ?_
 refine wpList_valD (some 137) rfl rfl (by (go_simp; first | with_reducible rfl | exact ⟨rfl, rfl⟩ | (trace_state; fail))) ?_
 simp only [Zp, Zq, Zr, Zs]
 refine wpList_callD (some 138) rfl rfl 84 _ ?_ (hL) ?_
 ·go_simp; try (with_reducible rfl)
 rintro e w9 ⟨rfl, hb9⟩
 refine ⟨_, rfl, ?_⟩
 simp only [Zp, Zq, Zr, Zs]
 have hA9 := hA8.call hb9
 have hx9 := hxx8.call hb9
 have hO9 := own_call hO8 hb9
 refine wpList_valD (some 139) rfl rfl (exec_buildSlice rfl (by kernel_rfl) (build_letS HK.out num start (N : Int) true w9)) ?_
 simp only [Zp, Zq, Zr, Zs]
 have hG := Vs.new w9 (letK num start true (N : Int) K) _ 127 rfl
 have hbA := (Below.refl w9.heap.size w9).alloc (Nat.le_refl _) (.cells (letK num start true (N : Int) K).toArray 127)
 refine wpList_valD (some 8) rfl rfl (by (go_simp; first | with_reducible rfl | exact ⟨rfl, rfl⟩ | (trace_state; fail))) ?_
 simp only [Zp, Zq, Zr, Zs]
 refine wpList_valD (some 9) rfl rfl (by (go_simp; first | with_reducible rfl | exact ⟨rfl, rfl⟩ | (trace_state; fail))) ?_
 simp only [Zp, Zq, Zr, Zs]
 have HFIN : Hid (Vs (w9.alloc (.cells (letK num start true (N : Int) K).toArray 127)) w9.heap.size (letK num start true (N : Int) K) ∧ AskS (w9.alloc (.cells (letK num start true (N : Int) K).toArray 127)) O c a (tkL kk f b l m cc p s) nx qs rs num start true (.slice A1 n c1) (N : Int) K (now + 1) 1 ∧ (w9.alloc (.cells (letK num start true (N : Int) K).toArray 127)).ownsRow w.heap.size 99 2 (.slice A1 n c1) n (cellsE (esK S)) ∧ Exc (fun q => q = a) w.heap.size w (w9.alloc (.cells (letK num start true (N : Int) K).toArray 127))) := by
  have hx10 := hx9.call hbA
  have hh := HH.out
  exact ⟨hG, ⟨hh.col.turn (S := fun q => q = a) (fun q e => ⟨e ▸ hh.o.1, .inr e⟩) hx10 (fun qv res h => h.exc (S := fun q => q = a) (fun e => HNE.out e.symm) hx10), hA9.call hbA, hh.o, HK.out⟩, own_lower (own_call hO9 hbA) (by omega), hx10⟩
 clear hA8 hxx8 hO8 hV8 hL hb9 hA9 hx9 hO9 hG hbA
 generalize w9.alloc (.cells (letK num start true (N : Int) K).toArray 127) = w10 at HFIN ⊢
 go_upto_region 99 with fail
 go_ret2
 exact ⟨_, A1, c1, rfl, HFIN.out.1, HFIN.out.2.1, HFIN.out.2.2.1, HFIN.out.2.2.2⟩

set_option maxHeartbeats 16000000 in
theorem collect_RecvB
  {f : Nat} (hf : IsF f) (kk b l m cc p : Int) (s : ByteArray) (n : Nat) (hn : n ≤ 1000) (M : Nat) (hM : M = n * sizeK f)
    (HC : ∀ wz, Calls Try.prog 43 #[.agg #[.int .u8 kk, .int .u8 f, .int .i64 b, .int .i64 l, .int .i64 m, .int .i64 cc, .int .i64 p, .string s]] wz (RetC 0 wz))
    (HO : ∀ wz, Calls Try.prog 32 #[.agg #[.int .u8 kk, .int .u8 f, .int .i64 b, .int .i64 l, .int .i64 m, .int .i64 cc]] wz (RetI n wz))
    (O : Nat → Prop) (c a : Nat) (nx : Int) (qs : List Int) (rs : List ResK) (num start : Int) (fv : Value) (fm : Int) (fk : List Int) (due wait now : Int)
    (N : Nat) (K : List Int) (S : KL f) (As : Option Addr) (cs eb ce : Nat) (w : World) (hN : N ≤ 256) (hK : K.length = 16) (hK8 : B8 K) (hS : S.length = n) (hnum : 0 ≤ num ∧ num ≤ 1099511627776) (hst : 0 ≤ start ∧ start ≤ 1099511627776)
    (hb : SlB w As (putB N K S) cs) (hE : Vs w eb (entL z16 0 (.slice none 0 0) (.slice As (20 + M) cs) 0))
  (h : AskS w O c a (tkL kk f b l m cc p s) nx qs rs num start true fv fm fk due wait) (S1 : KL f) (hfv : SlK w w.heap.size fv S1) (hrs : rs.length ≤ 1000)
  (ns : Nat) (xs : List Int) (code : Int) (hns : xs.length = ns) (hcx : code ≠ 0 → ns = 0)
  (HUN : ∀ (A1 : Option Addr) (c1 : Nat) wz, SlK wz wz.heap.size fv S1 → SlK wz wz.heap.size (.slice A1 n c1) S → Calls Try.prog 38 #[.agg #[.int .u8 kk, .int .u8 f, .int .i64 b, .int .i64 l, .int .i64 m, .int .i64 cc, .int .i64 p, .string s], .agg (totL fv fm fk).toArray, .agg (totL (.slice A1 n c1) (N : Int) K).toArray] wz (RetUn ns xs code wz)) :
  Calls Try.prog 46 #[.pointer (some ⟨c, 0, none⟩), .int .u64 now, .int .i64 1, .agg (msgL 6 num start (N : Int) K 0 (.slice (some ⟨eb, 0, none⟩) 1 ce)).toArray] w fun e w' => e = .returned (.tuple #[.slice none 0 0, .int .i64 0]) ∧ ∃ O', ColS w' O' (fun q => q = c) c (tkL kk f b l m cc p s) (.pointer none) nx qs (rs ++ [⟨start, if code = 0 then (N : Int) else 0, xs, code⟩]) ∧ ColR w w' O O' := by
 have HSN := Lib.hid hS
 have HUN := Lib.hid HUN
 have HFV := Lib.hid hfv
 have HNS := Lib.hid hns
 have HRS := Lib.hid hrs
 have HCX := Lib.hid hcx
 clear hfv hns hrs hcx
 have hK16 := h.k16
 have hL : (putB N K S).length = 20 + M := by
  rw [hM]
  exact (putB_parts N K S n hK hS (by omega)).1
 have hM9 : M ≤ 16000 := by
  have hz : sizeK f ≤ 16 := by unfold sizeK; split <;> omega
  rw [hM]
  exact Nat.le_trans (Nat.mul_le_mul hn hz) (by omega)
 have HCK := Lib.hid (fun wz (he : Vs wz eb (entL z16 0 (.slice none 0 0) (.slice As (20 + M) cs) 0)) => msg_Check6 num start (N : Int) 0 K hK ⟨hnum.2, hst.2, by omega, by omega, by omega, by omega⟩ z16 z16_length 0 0 none As 0 0 (20 + M) cs eb ce wz he)
 rw [show entC 0 0 0 (20 + M) = 0 by unfold entC; rw [if_neg (by omega), if_neg (by omega)]] at HCK
 have HTK : Hid (∀ wz, SlB wz As (putB N K S) cs → Calls Try.prog 42 #[.agg #[.int .u8 kk, .int .u8 f, .int .i64 b, .int .i64 l, .int .i64 m, .int .i64 cc, .int .i64 p, .string s], .slice As (20 + M) cs] wz fun e w' => ∃ (A1 : Option Addr) (c1 : Nat), e = .returned (.tuple #[.agg (totL (.slice A1 n c1) (N : Int) K).toArray, .int .i64 0]) ∧ w'.ownsRow wz.heap.size 99 2 (.slice A1 n c1) n (cellsE (esK S)) ∧ Below wz.heap.size wz w') := fun wz hz => by
  have h1 := total_Take hf kk b l m cc p s n (by omega) M hM (putB N K S) (putB_b8 N K S hK8) HC HO As cs wz hz.1 hz.2
  rw [hL] at h1
  exact h1.mono fun e w' hr => take_same hf hM hK hS hN hr
 have HK := Lib.hid hK
 have HKF := Lib.hid hK16
 have HH := Lib.hid h
 have HSB := Lib.hid hb
 have hEb := hE.lt
 obtain ⟨qv, res, hV, hcl, hal⟩ := askS_ne h
 have hA := h.ask
 have HNE := Lib.hid h.o.2
 have ht8 : (tkL kk f b l m cc p s).length = 8 := rfl
 have HT8 := Lib.hid ht8
 have HEQ : Hid (∀ wz, (Op.equalIn 10000 74 (.agg (cells8 K).toArray) (.agg (cells8 K).toArray)).run Try.prog wz = .ok true wz) := fun wz => by
  rw [run_equalIn_16 9998 Try.underlying74 hK hK]
  simp
 obtain ⟨L, hLL⟩ : ∃ z, 20 + M = z := ⟨_, rfl⟩
 rw [hLL] at HCK HTK hE hL
 have hL9 : L ≤ 20000 := by omega
 clear hLL hM HC HO hb hK hK16 hK8 hS hL h ht8
 generalize putB N K S = BS at *
 have hNi : (0 : Int) ≤ (N : Int) ∧ (N : Int) ≤ 256 := by omega
 go_enter Try.func46, Try.ntmps46
 go_upto_region 1 with fail
 have hM := Vs.new w (msgL 6 num start (N : Int) K 0 (.slice (some ⟨eb, 0, none⟩) 1 ce)) ((msgL 6 num start (N : Int) K 0 (.slice (some ⟨eb, 0, none⟩) 1 ce)).toArray) 27 rfl
 have hb00 : Below w.heap.size w (w.alloc (.cells (msgL 6 num start (N : Int) K 0 (.slice (some ⟨eb, 0, none⟩) 1 ce)).toArray 27)) := by repeat (first | exact bA | with_reducible assumption | apply bB)
 have hszn : w.heap.size + 1 ≤ (w.alloc (.cells (msgL 6 num start (N : Int) K 0 (.slice (some ⟨eb, 0, none⟩) 1 ce)).toArray 27)).heap.size := by simp only [World.size_alloc]; omega
 generalize (w.alloc (.cells (msgL 6 num start (N : Int) K 0 (.slice (some ⟨eb, 0, none⟩) 1 ce)).toArray 27)) = w1 at hM hb00 hszn ⊢
 obtain ⟨mb, hmb⟩ : ∃ z, w.heap.size = z := ⟨_, rfl⟩
 have hmb1 : a < mb ∧ c < mb ∧ eb < mb := by
  rw [← hmb]
  exact ⟨hal, hcl, hEb⟩
 replace hV := hV.call hb00
 replace hA := hA.call hb00
 replace hE := hE.call hb00
 rw [hmb] at hM
 simp only [hmb]
 have hmbw := Lib.hid hmb
 clear hmb
 go_upto_region 3 with fail
 have hck := HCK.out w1 hE
 refine wp_region_lit ?_
 refine wpList_valD (some 18) rfl rfl (exec_load rfl (by kernel_rfl) (hM.loadM HK.out)) ?_
 simp only [Zp, Zq, Zr, Zs]
 refine wpList_callD (some 19) rfl rfl 49 _ ?_ (hck) ?_
 ·go_simp; try (with_reducible rfl)
 rintro e w2 ⟨rfl, hb2⟩
 refine ⟨_, rfl, ?_⟩
 simp only [Zp, Zq, Zr, Zs]
 replace hb00 := bl_call hb00 (Nat.le_refl _) hb2
 replace hV := hV.call hb2
 replace hA := hA.call hb2
 replace hE := hE.call hb2
 replace hM := hM.call hb2
 clear hb2 hck
 refine wpList_valD (some 10) rfl rfl (by (go_simp; first | with_reducible rfl | exact ⟨rfl, rfl⟩ | (trace_state; fail))) ?_
 simp only [Zp, Zq, Zr, Zs]
 obtain ⟨c8, c9, c10, c11, f8, f9, f10, hcl2⟩ := hV.col HT8.out
 obtain ⟨a0, a1, a2, a4, a21, a22, hal2⟩ := hA.askC HKF.out
 obtain ⟨m0, m1, m2, m3, m4, m5, m6, m7⟩ := hM.msg HK.out
 go_upto_region 9 with fail
 have HL9 : Hid (∀ wz, Below w2.heap.size w2 wz → Calls Try.prog 84 #[.pointer (some ⟨c, 0, none⟩)] wz fun e w' => e = .returned (.agg (letK num start true fm fk).toArray) ∧ Below wz.heap.size wz w') := Lib.hid fun wz hbz => collect_letG _ HT8.out nx qv res c a num start true fv fm fk HKF.out due wait wz (hV.call hbz) (hA.call hbz)
 have HFL : ∀ wz, (Instr.field 127 (.agg (letK num start true fm fk).toArray) 0).run Try.prog wz = .ok (.int .i64 1) wz := fun wz => field_let num start true fm wz
 refine region_G (n := 27) (m := 28) (f := 27) (by kernel_rfl) (by kernel_rfl) rfl ?_
 refine WpG.vD 0 (some 32) ?_ rfl rfl (by kernel_rfl) (fun _ _ _ h => h) rfl (fun wz hwz => ?_) ?_
 rotate_left
 ·go_simp; try (with_reducible rfl)
 simp only [Zp, Zq, Zr, Zs]
 refine WpG.vD 1 (some 33) ?_ rfl rfl (by kernel_rfl) (fun _ _ _ h => h) rfl (fun wz hwz => ?_) ?_
 rotate_left
 ·go_simp; try (with_reducible rfl)
 simp only [Zp, Zq, Zr, Zs]
 refine WpG.vD 2 (some 34) ?_ rfl rfl (by kernel_rfl) (fun _ _ _ h => h) rfl (fun wz hwz => ?_) ?_
 rotate_left
 ·go_simp; try (with_reducible rfl)
 simp only [Zp, Zq, Zr, Zs]
 refine WpG.vD 3 (some 35) ?_ rfl rfl (by kernel_rfl) (fun _ _ _ h => h) rfl (fun wz hwz => ?_) ?_
 rotate_left
 ·go_simp; try (with_reducible rfl)
 simp only [Zp, Zq, Zr, Zs]
 refine WpG.vD 4 (some 36) ?_ rfl rfl (by kernel_rfl) (fun _ _ _ h => h) rfl (fun wz hwz => ?_) ?_
 rotate_left
 ·(obtain ⟨hcz, hfz⟩ := bcell (hwz); go_simp; try (with_reducible rfl))
 simp only [Zp, Zq, Zr, Zs]
 refine WpG.vD 5 (some 37) ?_ rfl rfl (by kernel_rfl) (fun _ _ _ h => h) rfl (fun wz hwz => ?_) ?_
 rotate_left
 ·go_simp; try (with_reducible rfl)
 simp only [Zp, Zq, Zr, Zs]
 refine WpG.vD 6 (some 38) ?_ rfl rfl (by kernel_rfl) (fun _ _ _ h => h) rfl (fun wz hwz => ?_) ?_
 rotate_left
 ·go_simp; try (with_reducible rfl)
 simp only [Zp, Zq, Zr, Zs]
 refine WpG.vD 7 (some 39) ?_ rfl rfl (by kernel_rfl) (fun _ _ _ h => h) rfl (fun wz hwz => ?_) ?_
 rotate_left
 ·go_simp; try (with_reducible rfl)
 simp only [Zp, Zq, Zr, Zs]
 refine WpG.vD 8 (some 40) ?_ rfl rfl (by kernel_rfl) (fun _ _ _ h => h) rfl (fun wz hwz => ?_) ?_
 rotate_left
 ·(obtain ⟨hcz, hfz⟩ := bcell (hwz); go_simp; try (with_reducible rfl))
 simp only [Zp, Zq, Zr, Zs]
 refine WpG.vD 9 (some 41) ?_ rfl rfl (by kernel_rfl) (fun _ _ _ h => h) rfl (fun wz hwz => ?_) ?_
 rotate_left
 ·go_simp; try (with_reducible rfl)
 simp only [Zp, Zq, Zr, Zs]
 refine WpG.vD 10 (some 42) ?_ rfl rfl (by kernel_rfl) (fun _ _ _ h => h) rfl (fun wz hwz => ?_) ?_
 rotate_left
 ·go_simp; try (with_reducible rfl)
 simp only [Zp, Zq, Zr, Zs]
 refine WpG.vD 11 (some 43) ?_ rfl rfl (by kernel_rfl) (fun _ _ _ h => h) rfl (fun wz hwz => ?_) ?_
 rotate_left
 ·go_simp; try (with_reducible rfl)
 simp only [Zp, Zq, Zr, Zs]
 refine WpG.vD 12 (some 44) ?_ rfl rfl (by kernel_rfl) (fun _ _ _ h => h) rfl (fun wz hwz => ?_) ?_
 rotate_left
 ·go_simp; try (with_reducible rfl)
 simp only [Zp, Zq, Zr, Zs]
 refine WpG.vD 13 (some 45) ?_ rfl rfl (by kernel_rfl) (fun _ _ _ h => h) rfl (fun wz hwz => ?_) ?_
 rotate_left
 ·(obtain ⟨hcz, hfz⟩ := bcell (hwz); go_simp; try (with_reducible rfl))
 simp only [Zp, Zq, Zr, Zs]
 refine WpG.vD 14 (some 46) ?_ rfl rfl (by kernel_rfl) (fun _ _ _ h => h) rfl (fun wz hwz => ?_) ?_
 rotate_left
 ·go_simp; try (with_reducible rfl)
 simp only [Zp, Zq, Zr, Zs]
 refine WpG.vD 15 (some 47) ?_ rfl rfl (by kernel_rfl) (fun _ _ _ h => h) rfl (fun wz hwz => ?_) ?_
 rotate_left
 ·go_simp; try (with_reducible rfl)
 simp only [Zp, Zq, Zr, Zs]
 refine WpG.vD 16 (some 48) ?_ rfl rfl (by kernel_rfl) (fun _ _ _ h => h) rfl (fun wz hwz => ?_) ?_
 rotate_left
 ·go_simp; try (with_reducible rfl)
 simp only [Zp, Zq, Zr, Zs]
 refine WpG.vD 17 (some 49) ?_ rfl rfl (by kernel_rfl) (fun _ _ _ h => h) rfl (fun wz hwz => ?_) ?_
 rotate_left
 ·(obtain ⟨hcz, hfz⟩ := bcell (hwz); go_simp; try (with_reducible rfl))
 simp only [Zp, Zq, Zr, Zs]
 refine WpG.vD 18 (some 50) ?_ rfl rfl (by kernel_rfl) (fun _ _ _ h => h) rfl (fun wz hwz => ?_) ?_
 rotate_left
 ·go_simp; try (with_reducible rfl)
 simp only [Zp, Zq, Zr, Zs]
 refine WpG.vD 19 (some 51) ?_ rfl rfl (by kernel_rfl) (fun _ _ _ h => h) rfl (fun wz hwz => ?_) ?_
 rotate_left
 ·go_simp; try (with_reducible rfl)
 simp only [Zp, Zq, Zr, Zs]
 refine WpG.vD 20 (some 52) ?_ rfl rfl (by kernel_rfl) (fun _ _ _ h => h) rfl (fun wz hwz => ?_) ?_
 rotate_left
 ·go_simp; try (with_reducible rfl)
 simp only [Zp, Zq, Zr, Zs]
 refine WpG.vD 21 (some 53) ?_ rfl rfl (by kernel_rfl) (fun _ _ _ h => h) rfl (fun wz hwz => ?_) ?_
 rotate_left
 ·go_simp; try (with_reducible rfl)
 simp only [Zp, Zq, Zr, Zs]
 refine WpG.vD 22 (some 54) ?_ rfl rfl (by kernel_rfl) (fun _ _ _ h => h) rfl (fun wz hwz => ?_) ?_
 rotate_left
 ·go_simp; try (with_reducible rfl)
 simp only [Zp, Zq, Zr, Zs]
 refine WpG.takeD 23 (some 55) rfl rfl (by kernel_rfl) (fun _ _ _ h => h) (.call rfl (fun wz hwz => HL9.out wz (hwz)) (fun wz hwz => ?_)) ?_
 ·go_simp; try (with_reducible rfl)
 simp only [Zp, Zq, Zr, Zs]
 refine WpG.vD 24 (some 56) ?_ rfl rfl (by kernel_rfl) (fun _ _ _ h => h) rfl (fun wz hwz => ?_) ?_
 rotate_left
 ·(obtain ⟨hcz, hfz⟩ := bcell (hwz); have q := HFL wz; go_simp; try (with_reducible rfl))
 simp only [Zp, Zq, Zr, Zs]
 refine WpG.vD 25 (some 57) ?_ rfl rfl (by kernel_rfl) (fun _ _ _ h => h) rfl (fun wz hwz => ?_) ?_
 rotate_left
 ·go_simp; try (with_reducible rfl)
 simp only [Zp, Zq, Zr, Zs]
 refine WpG.vD 26 (some 58) ?_ rfl rfl (by kernel_rfl) (fun _ _ _ h => h) rfl (fun wz hwz => ?_) ?_
 rotate_left
 ·go_simp; try (with_reducible rfl)
 simp only [Zp, Zq, Zr, Zs]
 refine WpG.done (by kernel_rfl) (fun w3 hb3 => ?_)
 (try simp only [List.drop_succ_cons]); (try simp only [List.drop_zero]); (try simp only [Nat.reduceSub]); (try simp only [List.take_succ_cons]); (try simp only [List.take_zero])
 clear c8 c9 c10 c11 f8 f9 f10 hcl2 a0 a1 a2 a4 a21 a22 hal2 m0 m1 m2 m3 m4 m5 m6 m7 HL9 HFL
 replace hb00 := bl_call hb00 (Nat.le_refl _) hb3
 replace hV := hV.call hb3
 replace hA := hA.call hb3
 replace hE := hE.call hb3
 replace hM := hM.call hb3
 clear hb3
 obtain ⟨m0, m1, m2, m3, m4, m5, m6, m7⟩ := hM.msg HK.out
 go_upto_region 18 with fail
 have hSB3 := HSB.out.later hb00
 have e18 := hE.cell 18 _ rfl
 have hV3 := Lib.hid hV
 have hE3 := Lib.hid hE
 have hM3 := Lib.hid hM
 clear m0 m1 m2 m3 m4 m5 m6 m7 e18
 apply region_Z2 (n := 15) (m := 16) (f := 15) (fun x0 x1 => (RvK w3 n (cellsE (esK S)) (fun p => totL (.slice p.1 n p.2) (N : Int) K)) (some x0) (some x1) true) ((RvT w3) none none) ((RvK w3 n (cellsE (esK S)) (fun p => totL (.slice p.1 n p.2) (N : Int) K)) none none false) ((RvK.weak _ _ _)) (RvK.clo) ((RvK.start w3))
 case hm => kernel_rfl
 case hB => kernel_rfl
 case hf => rfl
 case' h =>
  refine WpX.vD 0 (some 82) ?_ rfl rfl (by kernel_rfl) (fun _ _ _ h => h) rfl (fun wz hwz => ?_) ?_
  rotate_left
  ·go_simp; try (with_reducible rfl)
  simp only [Zp, Zq, Zr, Zs]
  refine WpX.vD 1 (some 83) ?_ rfl rfl (by kernel_rfl) (fun _ _ _ h => h) rfl (fun wz hwz => ?_) ?_
  rotate_left
  ·go_simp; try (with_reducible rfl)
  simp only [Zp, Zq, Zr, Zs]
  refine WpX.vD 2 (some 84) ?_ rfl rfl (by kernel_rfl) (fun _ _ _ h => h) rfl (fun wz hwz => ?_) ?_
  rotate_left
  ·go_simp; try (with_reducible rfl)
  simp only [Zp, Zq, Zr, Zs]
  refine WpX.vD 3 (some 85) ?_ rfl rfl (by kernel_rfl) (fun _ _ _ h => h) rfl (fun wz hwz => ?_) ?_
  rotate_left
  ·(refine Eq.trans (exec_load rfl (by kernel_rfl) (load_colT (hV3.out.call hwz))) ?_; with_reducible rfl)
  simp only [Zp, Zq, Zr, Zs]
  refine WpX.vD 4 (some 86) ?_ rfl rfl (by kernel_rfl) (fun _ _ _ h => h) rfl (fun wz hwz => ?_) ?_
  rotate_left
  ·go_simp; try (with_reducible rfl)
  simp only [Zp, Zq, Zr, Zs]
  refine WpX.vD 5 (some 87) ?_ rfl rfl (by kernel_rfl) (fun _ _ _ h => h) rfl (fun wz hwz => ?_) ?_
  rotate_left
  ·(have q := ((hM3.out.call hwz).msg HK.out).2.2.2.2.2.1; have q2 := (hM3.out.call hwz).lt; go_simp; try (with_reducible rfl))
  simp only [Zp, Zq, Zr, Zs]
  refine WpX.vD 6 (some 88) ?_ rfl rfl (by kernel_rfl) (fun _ _ _ h => h) rfl (fun wz hwz => ?_) ?_
  rotate_left
  ·go_simp; try (with_reducible rfl)
  simp only [Zp, Zq, Zr, Zs]
  refine WpX.vD 7 (some 89) ?_ rfl rfl (by kernel_rfl) (fun _ _ _ h => h) rfl (fun wz hwz => ?_) ?_
  rotate_left
  ·go_simp; try (with_reducible rfl)
  simp only [Zp, Zq, Zr, Zs]
  refine WpX.vD 8 (some 90) ?_ rfl rfl (by kernel_rfl) (fun _ _ _ h => h) rfl (fun wz hwz => ?_) ?_
  rotate_left
  ·(have q := (hE3.out.call hwz).cell 18 _ rfl; have q2 := (hE3.out.call hwz).lt; go_simp; try (with_reducible rfl))
  simp only [Zp, Zq, Zr, Zs]
  refine WpX.twoD 9 13 (some 91) (some 12) rfl rfl rfl rfl (by kernel_rfl) (fun tp : Option Addr × Nat => Value.tuple #[.agg (totL (.slice tp.1 n tp.2) (N : Int) K).toArray, .int .i64 0]) (fun tp => (RvT w3) (some tp) none) (fun tp => (RvK w3 n (cellsE (esK S)) (fun p => totL (.slice p.1 n p.2) (N : Int) K)) (some tp) none false) (Turns.call rfl (fun _ _ h => h) (fun _ => (RvK.weak _ _ _)) (fun _ => RvK.clo) (fun wz hS => (HTK.out wz (hSB3.later hS.t)).mono fun e w' ⟨A1, c1, he, ho, hb⟩ => ⟨(A1, c1), he, hS.mk1 ho hb⟩) (fun wz hS => by go_simp; try (with_reducible rfl))) (fun xx : Nat => Value.pointer (some ⟨xx, 0, none⟩)) (fun xx => (RvT w3) none (some xx)) (fun xx => (RvK w3 n (cellsE (esK S)) (fun p => totL (.slice p.1 n p.2) (N : Int) K)) none (some xx) false) (Turns.val rfl (fun _ _ h => h) (fun _ => (RvK.weak _ _ _)) (fun _ => RvK.clo) (fun wz hS => ⟨wz.heap.size, wz.alloc (.cells #[.slice none 0 0, .int .i64 0, .int .u8 0, .int .u8 0, .int .u8 0, .int .u8 0, .int .u8 0, .int .u8 0, .int .u8 0, .int .u8 0, .int .u8 0, .int .u8 0, .int .u8 0, .int .u8 0, .int .u8 0, .int .u8 0, .int .u8 0, .int .u8 0] 76), by go_simp; try (with_reducible rfl), hS.mk2 rfl⟩)) (fun tp => ?rz18_20a) (fun xx => ?rz18_20b)
  case' rz18_20a =>
   simp only [Zp, Zq, Zr, Zs]
   refine WpX.vD 10 (some 81) ?_ rfl rfl (by kernel_rfl) (fun _ _ _ h => h) rfl (fun wz hwz => ?_) ?_
   rotate_left
   ·go_simp; try (with_reducible rfl)
   simp only [Zp, Zq, Zr, Zs]
   refine WpX.vD 11 (some 92) ?_ rfl rfl (by kernel_rfl) (fun _ _ _ h => h) rfl (fun wz hwz => ?_) ?_
   rotate_left
   ·go_simp; try (with_reducible rfl)
   simp only [Zp, Zq, Zr, Zs]
   refine WpX.vD 12 (some 93) ?_ rfl rfl (by kernel_rfl) (fun _ _ _ h => h) rfl (fun wz hwz => ?_) ?_
   rotate_left
   ·go_simp; try (with_reducible rfl)
   simp only [Zp, Zq, Zr, Zs]
   refine WpX.oneD 13 (some 12) rfl rfl (by kernel_rfl) (fun xx : Nat => Value.pointer (some ⟨xx, 0, none⟩)) (fun xx => (RvT w3) (some tp) (some xx)) (fun xx => (RvK w3 n (cellsE (esK S)) (fun p => totL (.slice p.1 n p.2) (N : Int) K)) (some tp) (some xx) false) (Turns.val rfl (fun _ _ h => h) (fun _ => (RvK.weak _ _ _)) (fun _ => RvK.clo) (fun wz hS => ⟨wz.heap.size, wz.alloc (.cells #[.slice none 0 0, .int .i64 0, .int .u8 0, .int .u8 0, .int .u8 0, .int .u8 0, .int .u8 0, .int .u8 0, .int .u8 0, .int .u8 0, .int .u8 0, .int .u8 0, .int .u8 0, .int .u8 0, .int .u8 0, .int .u8 0, .int .u8 0, .int .u8 0] 76), by go_simp; try (with_reducible rfl), hS.mk2 rfl⟩)) (fun xx => ?_)
   simp only [Zp, Zq, Zr, Zs]
   refine WpX.oneSkip 14 none rfl rfl (by kernel_rfl) ((RvT w3) (some tp) (some xx)) ((RvK w3 n (cellsE (esK S)) (fun p => totL (.slice p.1 n p.2) (N : Int) K)) (some tp) (some xx) true) (fun _ h => h) ((RvK.weak _ _ _)) (RvK.clo) rfl (fun wz hS => ?_) ?_
   ·(exact ⟨_, exec_store rfl (by kernel_rfl) (by kernel_rfl) (((hS.b xx rfl).2.1 rfl).storeT z16_length HK.out rfl), hS.put (totL_length _ _ HK.out)⟩)
   simp only [Act.put]
   refine WpX.done (by kernel_rfl) (fun w4 hS => ⟨tp, xx, rfl, ?_⟩)
   ·exact hS
  case' rz18_20b =>
   simp only [Zp, Zq, Zr, Zs]
   refine WpX.oneD 9 (some 91) rfl rfl (by kernel_rfl) (fun tp : Option Addr × Nat => Value.tuple #[.agg (totL (.slice tp.1 n tp.2) (N : Int) K).toArray, .int .i64 0]) (fun tp => (RvT w3) (some tp) (some xx)) (fun tp => (RvK w3 n (cellsE (esK S)) (fun p => totL (.slice p.1 n p.2) (N : Int) K)) (some tp) (some xx) false) (Turns.call rfl (fun _ _ h => h) (fun _ => (RvK.weak _ _ _)) (fun _ => RvK.clo) (fun wz hS => (HTK.out wz (hSB3.later hS.t)).mono fun e w' ⟨A1, c1, he, ho, hb⟩ => ⟨(A1, c1), he, hS.mk1 ho hb⟩) (fun wz hS => by go_simp; try (with_reducible rfl))) (fun tp => ?_)
   simp only [Zp, Zq, Zr, Zs]
   refine WpX.vD 10 (some 81) ?_ rfl rfl (by kernel_rfl) (fun _ _ _ h => h) rfl (fun wz hwz => ?_) ?_
   rotate_left
   ·go_simp; try (with_reducible rfl)
   simp only [Zp, Zq, Zr, Zs]
   refine WpX.vD 11 (some 92) ?_ rfl rfl (by kernel_rfl) (fun _ _ _ h => h) rfl (fun wz hwz => ?_) ?_
   rotate_left
   ·go_simp; try (with_reducible rfl)
   simp only [Zp, Zq, Zr, Zs]
   refine WpX.vD 12 (some 93) ?_ rfl rfl (by kernel_rfl) (fun _ _ _ h => h) rfl (fun wz hwz => ?_) ?_
   rotate_left
   ·go_simp; try (with_reducible rfl)
   simp only [Zp, Zq, Zr, Zs]
   refine WpX.oneSkip 14 none rfl rfl (by kernel_rfl) ((RvT w3) (some tp) (some xx)) ((RvK w3 n (cellsE (esK S)) (fun p => totL (.slice p.1 n p.2) (N : Int) K)) (some tp) (some xx) true) (fun _ h => h) ((RvK.weak _ _ _)) (RvK.clo) rfl (fun wz hS => ?_) ?_
   ·(exact ⟨_, exec_store rfl (by kernel_rfl) (by kernel_rfl) (((hS.b xx rfl).2.1 rfl).storeT z16_length HK.out rfl), hS.put (totL_length _ _ HK.out)⟩)
   simp only [Act.put]
   refine WpX.done (by kernel_rfl) (fun w4 hS => ⟨tp, xx, rfl, ?_⟩)
   ·exact hS
 intro tp xx w4 hS
 (try simp only [List.drop_succ_cons]); (try simp only [List.drop_zero]); (try simp only [Nat.reduceSub]); (try simp only [List.take_succ_cons]); (try simp only [List.take_zero])
 obtain ⟨A1, c1⟩ := tp
 have hb4 : Below w3.heap.size w3 w4 := hS.t
 have hX := (hS.b xx rfl).2.2 rfl _ rfl
 have hO := hS.a _ rfl
 have hxx := (hS.b xx rfl).1
 have hone := hS.c _ xx rfl rfl
 dsimp only at hX hO hone ⊢
 have hs3 := hb00.size
 have hmb3 := hM.lt
 replace hb00 := bl_call hb00 (Nat.le_refl _) hb4
 replace hV := hV.call hb4
 replace hA := hA.call hb4
 replace hM := hM.call hb4
 clear hS hb4 hE hE3 hV3 hM3 hSB3 HTK HCK
 go_upto_region 19 with fail
 obtain ⟨x0, x1, x2, x3, x4⟩ := hX.tot
 obtain ⟨m0, m1, m2, m3, m4, m5, m6, m7⟩ := hM.msg HK.out
 refine wp_region_lit ?_
 refine wpList_valD (some 94) rfl rfl (by (go_simp; first | with_reducible rfl | exact ⟨rfl, rfl⟩ | (trace_state; fail))) ?_
 simp only [Zp, Zq, Zr, Zs]
 refine wpList_valD (some 95) rfl rfl (by (go_simp; first | with_reducible rfl | exact ⟨rfl, rfl⟩ | (trace_state; fail))) ?_
 simp only [Zp, Zq, Zr, Zs]
 refine wpList_valD (some 96) rfl rfl (by (go_simp; first | with_reducible rfl | exact ⟨rfl, rfl⟩ | (trace_state; fail))) ?_
 simp only [Zp, Zq, Zr, Zs]
 refine wpList_valG (some 97) rfl (by kernel_rfl) (by (go_simp; first | with_reducible rfl | exact ⟨rfl, rfl⟩ | (trace_state; fail))) ?_
 simp only [Zp, Zq, Zr, Zs]
 refine wpList_valG (some 98) rfl (by kernel_rfl) (by (go_simp; first | with_reducible rfl | exact ⟨rfl, rfl⟩ | (trace_state; fail))) ?_
 simp only [Zp, Zq, Zr, Zs]
 refine wpList_valG (some 99) rfl (by kernel_rfl) (by (go_simp; first | with_reducible rfl | exact ⟨rfl, rfl⟩ | (trace_state; fail))) ?_
 simp only [Zp, Zq, Zr, Zs]
 refine wpList_valG (some 100) rfl (by kernel_rfl) (by (go_simp; first | with_reducible rfl | exact ⟨rfl, rfl⟩ | (trace_state; fail))) ?_
 simp only [Zp, Zq, Zr, Zs]
 refine wpList_valG (some 101) rfl (by kernel_rfl) (by (go_simp; first | with_reducible rfl | exact ⟨rfl, rfl⟩ | (trace_state; fail))) ?_
 simp only [Zp, Zq, Zr, Zs]
 refine wpList_valD (some 102) rfl rfl (by (go_simp; first | with_reducible rfl | exact ⟨rfl, rfl⟩ | (trace_state; fail))) ?_
 simp only [Zp, Zq, Zr, Zs]
 refine wpList_valD (some 103) rfl rfl (by (go_simp; first | with_reducible rfl | exact ⟨rfl, rfl⟩ | (trace_state; fail))) ?_
 simp only [Zp, Zq, Zr, Zs]
 refine wpList_valG (some 104) rfl (by kernel_rfl) (by (go_simp; first | with_reducible rfl | exact ⟨rfl, rfl⟩ | (trace_state; fail))) ?_
 simp only [Zp, Zq, Zr, Zs]
 refine wpList_valG (some 105) rfl (by kernel_rfl) (exec_load rfl (by kernel_rfl) (hX.loadTC HK.out)) ?_
 simp only [Zp, Zq, Zr, Zs]
 refine wpList_valG (some 106) rfl (by kernel_rfl) (by (go_simp; first | with_reducible rfl | exact ⟨rfl, rfl⟩ | (trace_state; fail))) ?_
 simp only [Zp, Zq, Zr, Zs]
 refine wpList_valG (some 107) rfl (by kernel_rfl) (exec_load rfl (by kernel_rfl) (hM.loadMsum HK.out)) ?_
 simp only [Zp, Zq, Zr, Zs]
 refine wpList_valG (some 108) rfl (by kernel_rfl) (by (have q := HEQ.out w4; go_simp; first | with_reducible rfl | exact ⟨rfl, rfl⟩ | (trace_state; fail))) ?_
 simp only [Zp, Zq, Zr, Zs]
 refine wpList_valD (some 109) rfl rfl (by (go_simp; first | with_reducible rfl | exact ⟨rfl, rfl⟩ | (trace_state; fail))) ?_
 simp only [Zp, Zq, Zr, Zs]
 clear x0 x1 x2 x3 x4 m0 m1 m2 m3 m4 m5 m6 m7 HEQ
 obtain ⟨a0, a1, a2, a4, a21, a22, hal2⟩ := hA.askC HKF.out
 go_upto_region 26 with fail
 clear a0 a1 a2 a4 a21 a22 hal2
 have hV4 := Lib.hid hV
 have hA4 := Lib.hid hA
 have hX4 := Lib.hid hX
 have hFV4 := HFV.out.later hb00
 have hSK4 : SlK w4 w4.heap.size (.slice A1 n c1) S := own_sl HSN.out hO
 apply region_Z1 (n := 14) (m := 15) (f := 14) (fun x0 => (UsK w4 ns xs) (some x0) ) ((UsT w4) none) ((UsK w4 ns xs) none) ((UsK.weak _)) (UsK.clo) ((UsK.start w4))
 case hm => kernel_rfl
 case hB => kernel_rfl
 case hf => rfl
 case' h =>
  refine WpX.vD 0 (some 141) ?_ rfl rfl (by kernel_rfl) (fun _ _ _ h => h) rfl (fun wz hwz => ?_) ?_
  rotate_left
  ·go_simp; try (with_reducible rfl)
  simp only [Zp, Zq, Zr, Zs]
  refine WpX.vD 1 (some 142) ?_ rfl rfl (by kernel_rfl) (fun _ _ _ h => h) rfl (fun wz hwz => ?_) ?_
  rotate_left
  ·go_simp; try (with_reducible rfl)
  simp only [Zp, Zq, Zr, Zs]
  refine WpX.vD 2 (some 143) ?_ rfl rfl (by kernel_rfl) (fun _ _ _ h => h) rfl (fun wz hwz => ?_) ?_
  rotate_left
  ·go_simp; try (with_reducible rfl)
  simp only [Zp, Zq, Zr, Zs]
  refine WpX.vD 3 (some 144) ?_ rfl rfl (by kernel_rfl) (fun _ _ _ h => h) rfl (fun wz hwz => ?_) ?_
  rotate_left
  ·(refine Eq.trans (exec_load rfl (by kernel_rfl) (load_colT (hV4.out.call hwz))) ?_; with_reducible rfl)
  simp only [Zp, Zq, Zr, Zs]
  refine WpX.vD 4 (some 145) ?_ rfl rfl (by kernel_rfl) (fun _ _ _ h => h) rfl (fun wz hwz => ?_) ?_
  rotate_left
  ·go_simp; try (with_reducible rfl)
  simp only [Zp, Zq, Zr, Zs]
  refine WpX.vD 5 (some 146) ?_ rfl rfl (by kernel_rfl) (fun _ _ _ h => h) rfl (fun wz hwz => ?_) ?_
  rotate_left
  ·go_simp; try (with_reducible rfl)
  simp only [Zp, Zq, Zr, Zs]
  refine WpX.vD 6 (some 147) ?_ rfl rfl (by kernel_rfl) (fun _ _ _ h => h) rfl (fun wz hwz => ?_) ?_
  rotate_left
  ·go_simp; try (with_reducible rfl)
  simp only [Zp, Zq, Zr, Zs]
  refine WpX.vD 7 (some 148) ?_ rfl rfl (by kernel_rfl) (fun _ _ _ h => h) rfl (fun wz hwz => ?_) ?_
  rotate_left
  ·(refine Eq.trans (exec_load rfl (by kernel_rfl) ((hA4.out.call hwz).askTot HKF.out)) ?_; with_reducible rfl)
  simp only [Zp, Zq, Zr, Zs]
  refine WpX.vD 8 (some 149) ?_ rfl rfl (by kernel_rfl) (fun _ _ _ h => h) rfl (fun wz hwz => ?_) ?_
  rotate_left
  ·(refine Eq.trans (exec_load rfl (by kernel_rfl) ((hX4.out.call hwz).loadT HK.out)) ?_; with_reducible rfl)
  simp only [Zp, Zq, Zr, Zs]
  refine WpX.oneD 9 (some 150) rfl rfl (by kernel_rfl) (fun uq : Option Addr × Nat => Value.tuple #[.slice uq.1 ns uq.2, .int .i64 code]) (fun uq => (UsT w4) (some uq)) (fun uq => (UsK w4 ns xs) (some uq)) (Turns.call rfl (fun _ _ h => h) (fun _ => (UsK.weak _)) (fun _ => UsK.clo) (fun wz hS => (HUN.out A1 c1 wz (hFV4.later hS.t) (hSK4.later hS.t)).mono fun e w' ⟨q, he, ho, hb⟩ => ⟨q, he, hS.took ho hb⟩) (fun wz hS => by go_simp; try (with_reducible rfl))) (fun uq => ?_)
  simp only [Zp, Zq, Zr, Zs]
  refine WpX.vD 10 (some 140) ?_ rfl rfl (by kernel_rfl) (fun _ _ _ h => h) rfl (fun wz hwz => ?_) ?_
  rotate_left
  ·go_simp; try (with_reducible rfl)
  simp only [Zp, Zq, Zr, Zs]
  refine WpX.vD 11 (some 151) ?_ rfl rfl (by kernel_rfl) (fun _ _ _ h => h) rfl (fun wz hwz => ?_) ?_
  rotate_left
  ·go_simp; try (with_reducible rfl)
  simp only [Zp, Zq, Zr, Zs]
  refine WpX.vD 12 (some 152) ?_ rfl rfl (by kernel_rfl) (fun _ _ _ h => h) rfl (fun wz hwz => ?_) ?_
  rotate_left
  ·go_simp; try (with_reducible rfl)
  simp only [Zp, Zq, Zr, Zs]
  refine WpX.vD 13 (some 14) ?_ rfl rfl (by kernel_rfl) (fun _ _ _ h => h) rfl (fun wz hwz => ?_) ?_
  rotate_left
  ·go_simp; try (with_reducible rfl)
  simp only [Zp, Zq, Zr, Zs]
  refine WpX.done (by kernel_rfl) (fun w5 hS => ⟨uq, rfl, ?_⟩)
  ·exact hS
 intro uq w5 hS
 (try simp only [List.drop_succ_cons]); (try simp only [List.drop_zero]); (try simp only [Nat.reduceSub]); (try simp only [List.take_succ_cons]); (try simp only [List.take_zero])
 obtain ⟨Av, cv⟩ := uq
 have hb5 : Below w4.heap.size w4 w5 := hS.t
 have hU := hS.a _ rfl
 dsimp only at hU ⊢
 have hs4 := hb00.size
 replace hb00 := bl_call hb00 (Nat.le_refl _) hb5
 replace hX := hX.call hb5
 replace hA := hA.call hb5
 clear hS hb5 hV4 hA4 hX4 hFV4 hSK4 hV hM hO hone HUN HFV HSN
 obtain ⟨a0, a1, a2, a4, a21, a22, hal2⟩ := hA.askC HKF.out
 go_upto_region 28 with fail
 clear a0 a1 a2 a4 a21 a22 hal2
 have hxl5 := hX.lt
 have hs5 := hb00.size
 have hUl : ∀ g, (Value.slice Av ns cv).ownBlock = some g → g < w5.heap.size ∧ w4.heap.size ≤ g := fun g hg => ⟨(hU.lt g hg).2, (hU.lt g hg).1⟩
 have hB := Vs.new w5 [.int .u64 start, .int .i64 0, .slice none 0 0, .int .i64 code] #[.int .u64 start, .int .i64 0, .slice none 0 0, .int .i64 code] 121 rfl
 have hbA : Below w5.heap.size w5 (w5.alloc (.cells #[.int .u64 start, .int .i64 0, .slice none 0 0, .int .i64 code] 121)) := by repeat (first | exact bA | with_reducible assumption | apply bB)
 replace hb00 := bl_call hb00 (Nat.le_refl _) hbA
 replace hX := hX.call hbA
 replace hU := own_call hU hbA
 clear hbA
 generalize w5.alloc (.cells #[.int .u64 start, .int .i64 0, .slice none 0 0, .int .i64 code] 121) = w6 at hb00 hX hU hB ⊢
 obtain ⟨rb, hrb⟩ : ∃ z, w5.heap.size = z := ⟨_, rfl⟩
 rw [hrb] at hB hxl5 hs5 hUl
 simp only [hrb]
 clear hrb hA
 have hRB : ∀ (w' : World) (O' : Nat → Prop), (∃ w7 : World, Below w.heap.size w w7 ∧ ColR w7 w' O O') → ColR w w' O O' := by
  rintro w' O' ⟨w7, h1, h2, h3⟩
  refine ⟨fun q hq => ?_, (exc_of h1).trans (h3.mono h1.size)⟩
  rcases h2 q hq with h | h
  ·exact .inl h
  ·exact .inr (Nat.le_trans h1.size h)
 have HRB := Lib.hid hRB
 clear hRB
 by_cases hc0 : code = 0
 ·subst hc0
  obtain ⟨x0, x1, x2, x3, x4⟩ := hX.tot
  obtain ⟨⟨B0, B1, B2, B3⟩, ⟨B4, B5, B6, B7⟩, B8⟩ := hB.get4
  go_upto_region 30 with fail
  clear B0 B1 B2 B3 B4 B5 B6 B7 B8
  clear x0 x1 x2 x3 x4
  have hB7 : Vs ((w6.setCell ⟨rb, 1, none⟩ (.int .i64 (N : Int))).setCell ⟨rb, 2, none⟩ (.slice Av ns cv)) rb [.int .u64 start, .int .i64 (N : Int), .slice Av ns cv, .int .i64 0] := (hB.put 1 (by simp) (.int .i64 (N : Int))).put 2 (by simp) (.slice Av ns cv)
  have hb7 : Below w.heap.size w ((w6.setCell ⟨rb, 1, none⟩ (.int .i64 (N : Int))).setCell ⟨rb, 2, none⟩ (.slice Av ns cv)) := bl_set (p := ⟨rb, 2, none⟩) (bl_set (p := ⟨rb, 1, none⟩) hb00 hs5 _) hs5 _
  have hU7 := own_other hU (exc_sc (exc_sc (S := fun q => q = rb) (exc_of (Below.refl _ _)) (.inl rfl) 1 (.int .i64 (N : Int))) (.inl rfl) 2 (.slice Av ns cv)) (fun g hg e => by
   have := (hUl g hg).1
   omega)
  clear hB hb00 hU hX
  generalize (w6.setCell ⟨rb, 1, none⟩ (.int .i64 (N : Int))).setCell ⟨rb, 2, none⟩ (.slice Av ns cv) = w7 at hB7 hb7 hU7 ⊢
  have hEND := collect_end _ HT8.out O _ c _ nx qs rs ⟨start, (N : Int), xs, 0⟩ Av ns cv HRS.out w7 (HH.out.col.call hb7) (by rw [HNS.out]; exact own_lower hU7 (Nat.zero_le _)) (fun g hg h => by
   have h1 := HH.out.col.lt g h
   have := (hUl g hg).2
   omega)
  dsimp only at hEND
  obtain ⟨⟨B70, B71, B72, B73⟩, ⟨B74, B75, B76, B77⟩, B78⟩ := hB7.get4
  refine wp_region_lit ?_
  refine wpList_valD (some 166) rfl rfl (by (go_simp; first | with_reducible rfl | exact ⟨rfl, rfl⟩ | (trace_state; fail))) ?_
  simp only [Zp, Zq, Zr, Zs]
  refine wpList_valD (some 167) rfl rfl (by (go_simp; first | with_reducible rfl | exact ⟨rfl, rfl⟩ | (trace_state; fail))) ?_
  simp only [Zp, Zq, Zr, Zs]
  refine wpList_callD (some 168) rfl rfl 86 _ ?_ (hEND) ?_
  ·go_simp; try (with_reducible rfl)
  rintro e w8 ⟨rfl, O9, hc8, hr8⟩
  refine ⟨_, rfl, ?_⟩
  simp only [Zp, Zq, Zr, Zs]
  have HFIN := Lib.hid (And.intro hc8 (HRB.out _ _ ⟨w7, hb7, hr8⟩))
  clear B70 B71 B72 B73 B74 B75 B76 B77 B78
  clear hEND hB7 hU7 hc8 hr8 hUl
  go_upto_region 99 with fail
  go_ret2
  exact ⟨rfl, O9, by first | exact HFIN.out.1 | (rw [if_pos rfl]; exact HFIN.out.1), HFIN.out.2⟩
 ·have hn0 := HCX.out hc0
  have hc1 : (code == 0) = false := by simpa using hc0
  have HC0 := Lib.hid hc0
  subst hn0
  obtain rfl : xs = [] := List.eq_nil_of_length_eq_zero HNS.out
  clear hc0
  have hEND := collect_end _ HT8.out O _ c _ nx qs rs ⟨start, 0, [], code⟩ none 0 0 HRS.out w6 (HH.out.col.call hb00) (World.ownsRow_nil _ _ _ _) (fun g hg h => by cases hg)
  dsimp only at hEND
  obtain ⟨⟨B0, B1, B2, B3⟩, ⟨B4, B5, B6, B7⟩, B8⟩ := hB.get4
  go_upto_region 30 with fail
  refine wp_region_lit ?_
  refine wpList_valD (some 166) rfl rfl (by (go_simp; first | with_reducible rfl | exact ⟨rfl, rfl⟩ | (trace_state; fail))) ?_
  simp only [Zp, Zq, Zr, Zs]
  refine wpList_valD (some 167) rfl rfl (by (go_simp; first | with_reducible rfl | exact ⟨rfl, rfl⟩ | (trace_state; fail))) ?_
  simp only [Zp, Zq, Zr, Zs]
  refine wpList_callD (some 168) rfl rfl 86 _ ?_ (hEND) ?_
  ·go_simp; try (with_reducible rfl)
  rintro e w8 ⟨rfl, O9, hc8, hr8⟩
  refine ⟨_, rfl, ?_⟩
  simp only [Zp, Zq, Zr, Zs]
  have HFIN := Lib.hid (And.intro hc8 (HRB.out _ _ ⟨w6, hb00, hr8⟩))
  clear B0 B1 B2 B3 B4 B5 B6 B7 B8
  clear hEND hB hU hX hc8 hr8 hUl hb00
  go_upto_region 99 with fail
  go_ret2
  exact ⟨rfl, O9, by first | exact HFIN.out.1 | (rw [if_neg HC0.out]; exact HFIN.out.1), HFIN.out.2⟩

end Go.Proofs.Ytbakkmfjamcbfaa

namespace Go.Proofs.Ytbakkmfjamcbfaa
open Go.RowKit Fm
set_option linter.unusedVariables false
set_option maxRecDepth 100000

def idI (i : Nat) : List Int := (i : Int) :: List.replicate 15 0
theorem idI_length (i : Nat) : (idI i).length = 16 := rfl
theorem idI_b8 {i : Nat} (h : i ≤ 255) : B8 (idI i) := by
 intro x hx
 unfold idI at hx
 rcases List.mem_cons.1 hx with rfl | hx
 ·omega
 ·rw [List.mem_replicate] at hx
  obtain ⟨_, rfl⟩ := hx
  omega
def chkI : Nat → List Int
 | 0 => z16
 | i + 1 => xorL (chkI i) (hashF 7 (idI i))
theorem chkI_length : ∀ i, (chkI i).length = 16
 | 0 => z16_length
 | i + 1 => xorL_length (chkI_length i) (hashF_ok 7 _).1
section
variable {f : Nat}
def sumI (e : Fin (Pm f)) : Nat → Fin (Pm f)
 | 0 => 0
 | i + 1 => sumI e i + e
theorem addL_rep (n : Nat) (x y : Fin (Pm f)) : addL (List.replicate n x) (List.replicate n y) = List.replicate n (x + y) := by
 unfold addL
 rw [List.zipWith_replicate, Nat.min_self]
theorem sumI_both (a d : Nat) (hd : d ≤ a + 1) : ∀ i, sumI (nK f (a + 1)) i + sumI (-(nK f (a + 1 - d))) i = nK f (i * d)
 | 0 => by
  rw [Nat.zero_mul, nK_zero]
  show (0 : Fin (Pm f)) + 0 = 0
  grind
 | i + 1 => by
  have ih := sumI_both a d hd i
  have h : nK f (a + 1) = nK f (a + 1 - d) + nK f d := by
   rw [← nK_add]
   congr 1
   omega
  rw [Nat.succ_mul, nK_add f (i * d) d, ← ih]
  show (sumI (nK f (a + 1)) i + nK f (a + 1)) + (sumI (-(nK f (a + 1 - d))) i + -(nK f (a + 1 - d))) = _
  generalize sumI (nK f (a + 1)) i = s1
  generalize sumI (-(nK f (a + 1 - d))) i = s2
  rw [h]
  generalize nK f (a + 1 - d) = z
  generalize nK f d = v
  grind
theorem sumI_T (n a d i : Nat) (hd : d ≤ a + 1) : addL (List.replicate n (sumI (nK f (a + 1)) i)) (List.replicate n (sumI (-(nK f (a + 1 - d))) i)) = (List.replicate n (i * d)).map (nK f) := by
 rw [addL_rep, sumI_both a d hd, List.map_replicate]
end
theorem CK.most_pos {y : CK} (h : y.ok) : 1 ≤ y.most := by
 have key : ∀ b, 1 ≤ b → 1 ≤ 2 ^ b - 1 := fun b hb => by
  have := Nat.pow_le_pow_right (n := 2) (by omega) hb
  omega
 cases y with
 | count => show 1 ≤ 1; omega
 | sum b => exact key b h.1
 | vec b l c => exact key b h.1.1
 | hist l c => show 1 ≤ 1; omega
 | multi l m c => show 1 ≤ 1; omega

theorem build_idI (i : Nat) (w : World) : (Instr.build 34 #[(0, .int .u8 (i : Int))]).run Try.prog w = .ok (.agg (cells8 (idI i)).toArray) w := by kernel_rfl
structure TtI (w0 : World) {f : Nat} (n xa xb : Nat) (tk : List Value) (ga gb : Nat) (ia ib : Int) (Ka Kb : List Int) (X Y : KL f) (wr : World) : Prop where
 b : Below w0.heap.size w0 wr
 t : Vs wr w0.heap.size tk
 r8 : Vs wr (w0.heap.size + 1) (totL (.slice none 0 0) 0 z16)
 r9 : Vs wr (w0.heap.size + 1 + 1) (totL (.slice none 0 0) 0 z16)
 x : Vs wr xa (totL (.slice (some ⟨ga, 0, none⟩) n n) ia Ka)
 y : Vs wr xb (totL (.slice (some ⟨gb, 0, none⟩) n n) ib Kb)
 a : BlkE wr ga (esK X)
 c : BlkE wr gb (esK Y)
 o : w0.heap.size + 1 + 1 < xa ∧ w0.heap.size + 1 + 1 < xb ∧ xa ≠ xb ∧ w0.heap.size ≤ ga ∧ w0.heap.size ≤ gb
section
variable {w0 wr w' : World} {f n xa xb : Nat} {tk : List Value} {ga gb : Nat} {ia ib : Int} {Ka Kb : List Int} {X Y : KL f}
theorem TtI.call (h : TtI w0 n xa xb tk ga gb ia ib Ka Kb X Y wr) (hb : Below wr.heap.size wr w') : TtI w0 n xa xb tk ga gb ia ib Ka Kb X Y w' :=
 ⟨bl_call h.b (Nat.le_refl _) hb, h.t.call hb, h.r8.call hb, h.r9.call hb, h.x.call hb, h.y.call hb, h.a.call hb, h.c.call hb, h.o⟩
theorem TtI.setX (h : TtI w0 n xa xb tk ga gb ia ib Ka Kb X Y wr) {g2 : Nat} {X2 : KL f} (hg : BlkE wr g2 (esK X2)) (hgw : w0.heap.size ≤ g2) (i2 : Int) {K2 : List Int} (hKa : Ka.length = 16) (hK : K2.length = 16) :
  TtI w0 n xa xb tk g2 gb i2 ib K2 Kb X2 Y (wr.setCells xa 0 (totL (.slice (some ⟨g2, 0, none⟩) n n) i2 K2)) := by
 obtain ⟨o1, o2, o3, o4, o5⟩ := h.o
 have n1 := blk_vs hg h.x
 have n2 := blk_vs h.c h.x
 exact ⟨bl_setCells h.b (by omega) _ _, h.t.farW (by omega) _ _, h.r8.farW (by omega) _ _, h.r9.farW (by omega) _ _, h.x.setT hKa hK, h.y.farW o3 _ _, hg.farC n1.symm _ _, h.c.farC n2.symm _ _, o1, o2, o3, hgw, o5⟩
theorem TtI.setY (h : TtI w0 n xa xb tk ga gb ia ib Ka Kb X Y wr) {g2 : Nat} {Y2 : KL f} (hg : BlkE wr g2 (esK Y2)) (hgw : w0.heap.size ≤ g2) (i2 : Int) {K2 : List Int} (hKb : Kb.length = 16) (hK : K2.length = 16) :
  TtI w0 n xa xb tk ga g2 ia i2 Ka K2 X Y2 (wr.setCells xb 0 (totL (.slice (some ⟨g2, 0, none⟩) n n) i2 K2)) := by
 obtain ⟨o1, o2, o3, o4, o5⟩ := h.o
 have n1 := blk_vs hg h.y
 have n2 := blk_vs h.a h.y
 exact ⟨bl_setCells h.b (by omega) _ _, h.t.farW (by omega) _ _, h.r8.farW (by omega) _ _, h.r9.farW (by omega) _ _, h.x.farW o3.symm _ _, h.y.setT hKb hK, h.a.farC n2.symm _ _, hg.farC n1.symm _ _, o1, o2, o3, o4, hgw⟩
end

/-! ### two new rows of elements -/
def MkT (w0 : World) (o1 o2 : Option Nat) (wz : World) : Prop := Below w0.heap.size w0 wz
structure MkK (w0 : World) (zs : List E) (o1 o2 : Option Nat) (wz : World) : Prop where
 t : Below w0.heap.size w0 wz
 a : ∀ g, o1 = some g → w0.heap.size ≤ g ∧ BlkE wz g zs
 b : ∀ g, o2 = some g → w0.heap.size ≤ g ∧ BlkE wz g zs
 e : ∀ g g', o1 = some g → o2 = some g' → g ≠ g'
section
variable {w0 w w' : World} {zs : List E} {o1 o2 : Option Nat}
theorem MkK.weak (o1 o2 : Option Nat) (w : World) (h : MkK w0 zs o1 o2 w) : MkT w0 o1 o2 w := h.t
theorem MkK.clo : Clo (MkK w0 zs o1 o2) := fun w w' h hb => ⟨bl_call h.t (Nat.le_refl _) hb, fun g e => ⟨(h.a g e).1, (h.a g e).2.call hb⟩, fun g e => ⟨(h.b g e).1, (h.b g e).2.call hb⟩, h.e⟩
theorem MkK.start (w0 : World) : MkK w0 zs none none w0.drew :=
 ⟨(Below.refl _ _).drew, fun _ e => (by cases e), fun _ e => (by cases e), fun _ _ e => (by cases e)⟩
theorem MkK.mkA (h : MkK w0 zs none o2 w) : MkK w0 zs (some w.heap.size) o2 (w.alloc (.cells (cellsE zs).toArray 99)) := by
 have hb := (Below.refl w.heap.size w).alloc (Nat.le_refl _) (.cells (cellsE zs).toArray 99)
 have h2 := MkK.clo _ _ h hb
 refine ⟨h2.t, fun g e => ?_, h2.b, fun g g' e e' => ?_⟩
 ·injection e with e
  subst e
  exact ⟨h.t.size, BlkE.new w zs _ rfl⟩
 ·injection e with e
  subst e
  have := (h.b g' e').2.lt
  omega
theorem MkK.mkB (h : MkK w0 zs o1 none w) : MkK w0 zs o1 (some w.heap.size) (w.alloc (.cells (cellsE zs).toArray 99)) := by
 have hb := (Below.refl w.heap.size w).alloc (Nat.le_refl _) (.cells (cellsE zs).toArray 99)
 have h2 := MkK.clo _ _ h hb
 refine ⟨h2.t, h2.a, fun g e => ?_, fun g g' e e' => ?_⟩
 ·injection e with e
  subst e
  exact ⟨h.t.size, BlkE.new w zs _ rfl⟩
 ·injection e' with e'
  subst e'
  have := (h.a g e).2.lt
  omega
end

section
variable {w : World}
theorem results_tot2 {fn : Func} {p q : Tmp} {tmps : Array Value} {b b' : Nat} {v v' : Value} {m m' : Int} {k k' : List Int} (hv : Vs w b (totL v m k)) (hk : k.length = 16) (hv' : Vs w b' (totL v' m' k')) (hk' : k'.length = 16)
  (h : fn.results = #[.cell p 76, .cell q 76]) (hp : tmps.getD p undef = .pointer (some ⟨b, 0, none⟩)) (hq : tmps.getD q undef = .pointer (some ⟨b', 0, none⟩)) :
  (results fn tmps).run Try.prog w = .ok (.tuple #[.agg (totL v m k).toArray, .agg (totL v' m' k').toArray]) w := by
 have hl : (loadVar 76 ⟨b, 0, none⟩).run Try.prog w = _ := loadVar_W hv Try.underlying76 rfl (by rw [totL_length _ _ hk]; exact size_total)
 have hl' : (loadVar 76 ⟨b', 0, none⟩).run Try.prog w = _ := loadVar_W hv' Try.underlying76 rfl (by rw [totL_length _ _ hk']; exact size_total)
 rw [Array.getD_eq_getD_getElem?] at hp hq
 simp only [results, h]
 simp [asAddr, hp, hq, hl, hl']
end

theorem field_NegT {f : Nat} (hf : IsF f) (a0 a1 : Int) (w : World) (h0 : 0 ≤ a0) (h1 : a0 ≤ 18446744073709551615) (k0 : 0 ≤ a1) (k1 : a1 ≤ 18446744073709551615) :
  Calls Try.prog 85 #[.int .u8 f, .agg #[.int .u64 a0, .int .u64 a1]] w (RetK (- kL f a0 a1) w) := by
 have h := fun wz => field_SubL hf 0 0 a0 a1 wz (by omega) (by omega) (by omega) (by omega) h0 h1 k0 k1
 rw [kL_zero, show (0 : Fin (Pm f)) - kL f a0 a1 = - kL f a0 a1 by grind] at h
 generalize - kL f a0 a1 = z at *
 have H := Lib.hid h
 clear h
 go_enter Try.func85, Try.ntmps85
 go_upto_region 1 with fail
 have q0 := (V2.new w (.int .u64 a0) (.int .u64 a1) 99).alloc (.cells #[(.int .u64 0), (.int .u64 0)] 99)
 have s0 := V2.new (w.alloc (.cells #[(.int .u64 a0), (.int .u64 a1)] 99)) (.int .u64 0) (.int .u64 0) 99
 simp only [World.size_alloc] at s0
 have hb00 : Below w.heap.size w ((w.alloc (.cells #[(.int .u64 a0), (.int .u64 a1)] 99)).alloc (.cells #[(.int .u64 0), (.int .u64 0)] 99)) := by repeat (first | exact bA | with_reducible assumption | apply bB)
 have hsz : w.heap.size + 2 ≤ ((w.alloc (.cells #[(.int .u64 a0), (.int .u64 a1)] 99)).alloc (.cells #[(.int .u64 0), (.int .u64 0)] 99)).heap.size := by simp only [World.size_alloc]; omega
 generalize ((w.alloc (.cells #[(.int .u64 a0), (.int .u64 a1)] 99)).alloc (.cells #[(.int .u64 0), (.int .u64 0)] 99)) = w1 at q0 s0 hb00 hsz ⊢
 obtain ⟨c0, c1, c2, c3, c4⟩ := q0
 go_wp2_with (go_at_call 69; refine (H.out _).mono ?_; rintro e w5 ⟨rfl, hb5⟩; obtain ⟨e0, e1, e2, e3, e4⟩ := s0.call hb5)
 refine bodyPost_ret (results_v2 (b := w.heap.size + 1) (u := .int .u64 (lo z)) (v := .int .u64 (hi z)) ?_ rfl rfl) rfl ⟨rfl, by repeat (first | exact bA | with_reducible assumption | apply bB | (refine bC ?_ (by dsimp only; omega)) | apply bD | apply bE | (refine bF ?_ (by assumption)))⟩
 exact V2.set ⟨e0, e1, e2, e3, e4⟩ _ _


end Go.Proofs.Ytbakkmfjamcbfaa
