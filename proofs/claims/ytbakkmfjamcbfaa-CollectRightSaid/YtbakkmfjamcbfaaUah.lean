/-
 TtB, DecN, UnO, CrI: for CollectRight.
-/
import Derived.BigQuiet
import Derived.Test.YtbakkmfjamcbfaaUag
namespace Go.Proofs.Ytbakkmfjamcbfaa
open Go.RowKit Fm
set_option linter.unusedVariables false
set_option maxRecDepth 100000

def RetT2 {f : Nat} (n : Nat) (m : Int) (K : List Int) (X Y : KL f) (w : World) (e : Ending) (w' : World) : Prop :=
 ∃ p : Nat × Nat, e = .returned (.tuple #[.agg (totL (.slice (some ⟨p.1, 0, none⟩) n n) m K).toArray, .agg (totL (.slice (some ⟨p.2, 0, none⟩) n n) m K).toArray]) ∧ BlkE w' p.1 (esK X) ∧ BlkE w' p.2 (esK Y) ∧ w.heap.size ≤ p.1 ∧ w.heap.size ≤ p.2 ∧ Below w.heap.size w w'

set_option maxHeartbeats 16000000 in
theorem law25_totals {f : Nat} (hf : IsF f) (k b l m c p : Int) (s : ByteArray) (n : Nat) (hn : n ≤ 1000000) (HC : ∀ wz, Calls Try.prog 43 #[.agg #[.int .u8 k, .int .u8 f, .int .i64 b, .int .i64 l, .int .i64 m, .int .i64 c, .int .i64 p, .string s]] wz (RetC 0 wz))
  (HO : ∀ wz, Calls Try.prog 32 #[.agg #[.int .u8 k, .int .u8 f, .int .i64 b, .int .i64 l, .int .i64 m, .int .i64 c]] wz (RetI n wz))
  (many bi : Int) (a q d : Nat) (hq : many % 5 = (q : Int)) (hmany : 0 ≤ many ∧ many ≤ 255) (ha : a ≤ 255) (hbi : 0 ≤ bi ∧ bi ≤ 255) (hd : bi % 2 = (d : Int)) (w : World) :
  Calls Try.prog 45 #[.agg #[.int .u8 k, .int .u8 f, .int .i64 b, .int .i64 l, .int .i64 m, .int .i64 c, .int .i64 p, .string s], .int .u8 many, .int .u8 (a : Int), .int .u8 bi] w
   (RetT2 (f := f) n (q : Int) (chkI q) (List.replicate n (sumI (nK f (a + 1)) q)) (List.replicate n (sumI (-(nK f (a + 1 - d))) q)) w) := by
 have hq4 : q ≤ 4 := by omega
 have hd1 : d ≤ 1 := by omega
 have HNEW : Hid (∀ wz, Calls Try.prog 31 #[.agg #[.int .u8 k, .int .u8 f, .int .i64 b, .int .i64 l, .int .i64 m, .int .i64 c, .int .i64 p, .string s]] wz (RetT n 0 z16 (zK f n) wz)) := fun wz => total_New k b l m c p s n hn HC HO wz
 have HADD : Hid (∀ (i : Nat) (K id : List Int) (vx vo : Value) (xs os : KL f) wz, i < 256 → K.length = 16 → id.length = 16 → B8 id → SlK wz wz.heap.size vx xs → SlK wz wz.heap.size vo os → xs.length = n → os.length = n →
   Calls Try.prog 37 #[.agg (totL vx (i : Int) K).toArray, .agg #[.int .u8 k, .int .u8 f, .int .i64 b, .int .i64 l, .int .i64 m, .int .i64 c, .int .i64 p, .string s], .agg (cells8 id).toArray, vo] wz (RetTE n (((i + 1 : Nat) : Int)) (xorL K (hashF 7 id)) (addL xs os) wz)) :=
  fun i K id vx vo xs os wz h0 h1 h2 h3 h4 h5 h6 h7 => total_Add hf k b l m c p s n hn HC HO (i : Int) ⟨by omega, by omega⟩ K id h1 h2 h3 vx vo xs os wz h4 h5 h6 h7
 have HNG : Hid (∀ wz, Calls Try.prog 85 #[.int .u8 f, .agg #[.int .u64 ((a + 1 - d : Nat) : Int), .int .u64 0]] wz (RetK (-(nK f (a + 1 - d))) wz)) := Lib.hid fun wz => field_NegT hf ((a + 1 - d : Nat) : Int) 0 wz (by omega) (by omega) (by omega) (by omega)
 have HO := Lib.hid HO
 obtain ⟨e1, he1⟩ : ∃ e, nK f (a + 1) = e := ⟨_, rfl⟩
 obtain ⟨e2, he2⟩ : ∃ e, -(nK f (a + 1 - d)) = e := ⟨_, rfl⟩
 have HL1 : Hid (lo e1 = (a : Int) + 1 ∧ Go.Proofs.Ytbakkmfjamcbfaa.hi e1 = 0) := Lib.hid (by
  have h := eK_nK hf (n := a + 1) (by omega)
  rw [he1] at h
  unfold lo Go.Proofs.Ytbakkmfjamcbfaa.hi
  rw [h]
  exact ⟨by omega, rfl⟩)
 have hw1 : IntKind.u64.wrap ((a : Int) + 1) = (a : Int) + 1 := IntWalk.u64_in _ (by omega)
 have hz9 : (a : Int) + 1 - (d : Int) = ((a + 1 - d : Nat) : Int) := by omega
 obtain ⟨z, hz⟩ : ∃ z : Nat, a + 1 - d = z := ⟨_, rfl⟩
 have hz2 : z ≤ 256 := by omega
 rw [he1, he2]
 rw [he2] at HNG
 rw [hz] at HNG hz9
 have hw2 : IntKind.u64.wrap ((a : Int) + 1 - bi % 2) = (z : Int) := by rw [hd, hz9]; exact IntWalk.u64_in _ (by omega)
 have hw3 : IntKind.u64.wrap (IntKind.u64.wrap (IntKind.u64.wrap (a : Int) + 1) - IntKind.u64.wrap (bi.tmod 2)) = (z : Int) := by
  rw [IntWalk.u64_in (a : Int) (by omega), hw1, Int.tmod_eq_emod_of_nonneg (by omega), IntWalk.u64_in (bi % 2) (by omega), hw2]
 have HZ : Hid (esK (zK f n) = List.replicate n (0, 0)) := by
  show _ = _
  unfold esK zK
  rw [List.map_replicate, eK_zero]
 have HL9 : Hid (∀ e : Fin (Pm f), (List.replicate n e).length = (zK f n).length) := Lib.hid fun e => by rw [zK_length, List.length_replicate]
 have HM := Lib.hid (And.intro hq (And.intro hmany hbi))
 have hFb0 : (1 : Int) ≤ (f : Int) := by rcases hf.or with rfl | rfl <;> omega
 have hFb1 : (f : Int) ≤ 2 := by rcases hf.or with rfl | rfl <;> omega
 clear he1 he2 HC hz hf
 generalize (f : Int) = F at *
 go_enter Try.func45, Try.ntmps45
 go_upto_region 1 with fail
 have hT := ((Vs.new w [.int .u8 k, .int .u8 F, .int .i64 b, .int .i64 l, .int .i64 m, .int .i64 c, .int .i64 p, .string s] #[.int .u8 k, .int .u8 F, .int .i64 b, .int .i64 l, .int .i64 m, .int .i64 c, .int .i64 p, .string s] 62 rfl).alloc (.cells #[.slice none 0 0, .int .i64 0, .int .u8 0, .int .u8 0, .int .u8 0, .int .u8 0, .int .u8 0, .int .u8 0, .int .u8 0, .int .u8 0, .int .u8 0, .int .u8 0, .int .u8 0, .int .u8 0, .int .u8 0, .int .u8 0, .int .u8 0, .int .u8 0] 76)).alloc (.cells #[.slice none 0 0, .int .i64 0, .int .u8 0, .int .u8 0, .int .u8 0, .int .u8 0, .int .u8 0, .int .u8 0, .int .u8 0, .int .u8 0, .int .u8 0, .int .u8 0, .int .u8 0, .int .u8 0, .int .u8 0, .int .u8 0, .int .u8 0, .int .u8 0] 76)
 have hr := (Vs.new (w.alloc (.cells #[.int .u8 k, .int .u8 F, .int .i64 b, .int .i64 l, .int .i64 m, .int .i64 c, .int .i64 p, .string s] 62)) (totL (.slice none 0 0) 0 z16) (#[.slice none 0 0, .int .i64 0, .int .u8 0, .int .u8 0, .int .u8 0, .int .u8 0, .int .u8 0, .int .u8 0, .int .u8 0, .int .u8 0, .int .u8 0, .int .u8 0, .int .u8 0, .int .u8 0, .int .u8 0, .int .u8 0, .int .u8 0, .int .u8 0]) 76 rfl).alloc (.cells #[.slice none 0 0, .int .i64 0, .int .u8 0, .int .u8 0, .int .u8 0, .int .u8 0, .int .u8 0, .int .u8 0, .int .u8 0, .int .u8 0, .int .u8 0, .int .u8 0, .int .u8 0, .int .u8 0, .int .u8 0, .int .u8 0, .int .u8 0, .int .u8 0] 76)
 have hr2 := Vs.new ((w.alloc (.cells #[.int .u8 k, .int .u8 F, .int .i64 b, .int .i64 l, .int .i64 m, .int .i64 c, .int .i64 p, .string s] 62)).alloc (.cells #[.slice none 0 0, .int .i64 0, .int .u8 0, .int .u8 0, .int .u8 0, .int .u8 0, .int .u8 0, .int .u8 0, .int .u8 0, .int .u8 0, .int .u8 0, .int .u8 0, .int .u8 0, .int .u8 0, .int .u8 0, .int .u8 0, .int .u8 0, .int .u8 0] 76)) (totL (.slice none 0 0) 0 z16) (#[.slice none 0 0, .int .i64 0, .int .u8 0, .int .u8 0, .int .u8 0, .int .u8 0, .int .u8 0, .int .u8 0, .int .u8 0, .int .u8 0, .int .u8 0, .int .u8 0, .int .u8 0, .int .u8 0, .int .u8 0, .int .u8 0, .int .u8 0, .int .u8 0]) 76 rfl
 simp only [World.size_alloc] at hr hr2
 have hb00 : Below w.heap.size w (((w.alloc (.cells #[.int .u8 k, .int .u8 F, .int .i64 b, .int .i64 l, .int .i64 m, .int .i64 c, .int .i64 p, .string s] 62)).alloc (.cells #[.slice none 0 0, .int .i64 0, .int .u8 0, .int .u8 0, .int .u8 0, .int .u8 0, .int .u8 0, .int .u8 0, .int .u8 0, .int .u8 0, .int .u8 0, .int .u8 0, .int .u8 0, .int .u8 0, .int .u8 0, .int .u8 0, .int .u8 0, .int .u8 0] 76)).alloc (.cells #[.slice none 0 0, .int .i64 0, .int .u8 0, .int .u8 0, .int .u8 0, .int .u8 0, .int .u8 0, .int .u8 0, .int .u8 0, .int .u8 0, .int .u8 0, .int .u8 0, .int .u8 0, .int .u8 0, .int .u8 0, .int .u8 0, .int .u8 0, .int .u8 0] 76)) := by repeat (first | exact bA | with_reducible assumption | apply bB)
 have hszn : w.heap.size + 3 ≤ (((w.alloc (.cells #[.int .u8 k, .int .u8 F, .int .i64 b, .int .i64 l, .int .i64 m, .int .i64 c, .int .i64 p, .string s] 62)).alloc (.cells #[.slice none 0 0, .int .i64 0, .int .u8 0, .int .u8 0, .int .u8 0, .int .u8 0, .int .u8 0, .int .u8 0, .int .u8 0, .int .u8 0, .int .u8 0, .int .u8 0, .int .u8 0, .int .u8 0, .int .u8 0, .int .u8 0, .int .u8 0, .int .u8 0] 76)).alloc (.cells #[.slice none 0 0, .int .i64 0, .int .u8 0, .int .u8 0, .int .u8 0, .int .u8 0, .int .u8 0, .int .u8 0, .int .u8 0, .int .u8 0, .int .u8 0, .int .u8 0, .int .u8 0, .int .u8 0, .int .u8 0, .int .u8 0, .int .u8 0, .int .u8 0] 76)).heap.size := by simp only [World.size_alloc]; omega
 generalize (((w.alloc (.cells #[.int .u8 k, .int .u8 F, .int .i64 b, .int .i64 l, .int .i64 m, .int .i64 c, .int .i64 p, .string s] 62)).alloc (.cells #[.slice none 0 0, .int .i64 0, .int .u8 0, .int .u8 0, .int .u8 0, .int .u8 0, .int .u8 0, .int .u8 0, .int .u8 0, .int .u8 0, .int .u8 0, .int .u8 0, .int .u8 0, .int .u8 0, .int .u8 0, .int .u8 0, .int .u8 0, .int .u8 0] 76)).alloc (.cells #[.slice none 0 0, .int .i64 0, .int .u8 0, .int .u8 0, .int .u8 0, .int .u8 0, .int .u8 0, .int .u8 0, .int .u8 0, .int .u8 0, .int .u8 0, .int .u8 0, .int .u8 0, .int .u8 0, .int .u8 0, .int .u8 0, .int .u8 0, .int .u8 0] 76)) = w1 at hT hr hr2 hb00 hszn ⊢
 have HT1 := Lib.hid hT
 have hr2l := hr2.lt
 apply region_Z4 (n := 7) (m := 8) (f := 7) (fun x0 x1 x2 x3 => (UnK w1 n (esK (zK f n))) (some x0) (some x1) (some x2) (some x3) true) ((UnT w1) none none none none) ((UnK w1 n (esK (zK f n))) none none none none false) ((UnK.weak _ _ _ _ _)) (UnK.clo) ((UnK.start w1))
 case hm => kernel_rfl
 case hB => kernel_rfl
 case hf => rfl
 case' h =>
  refine WpX.vD 0 (some 16) ?_ rfl rfl (by kernel_rfl) (fun _ _ _ h => h) rfl (fun wz hwz => ?_) ?_
  rotate_left
  ·(have hz := (HT1.out.call hwz).get8; obtain ⟨⟨z0, z1, z2, z3, z4, z5, z6, z7⟩, ⟨y0, y1, y2, y3, y4, y5, y6, y7⟩, y8⟩ := hz; go_simp; try (with_reducible rfl))
  simp only [Zp, Zq, Zr, Zs]
  refine WpX.vD 2 (some 18) ?_ rfl rfl (by kernel_rfl) (fun _ _ _ h => h) rfl (fun wz hwz => ?_) ?_
  rotate_left
  ·(have hz := (HT1.out.call hwz).get8; obtain ⟨⟨z0, z1, z2, z3, z4, z5, z6, z7⟩, ⟨y0, y1, y2, y3, y4, y5, y6, y7⟩, y8⟩ := hz; go_simp; try (with_reducible rfl))
  simp only [Zp, Zq, Zr, Zs]
  refine WpX.threeD 1 4 5 (some 17) (some 10) (some 11) rfl rfl rfl rfl rfl rfl (by kernel_rfl) (fun g : Nat => Value.agg (totL (.slice (some ⟨g, 0, none⟩) n n) 0 z16).toArray) (fun ga => (UnT w1) (some ga) none none none) (fun ga => (UnK w1 n (esK (zK f n))) (some ga) none none none false) (Turns.call rfl (fun _ _ h => h) (fun _ => (UnK.weak _ _ _ _ _)) (fun _ => UnK.clo) (fun wz hS => (HNEW.out wz).mono fun e w' ⟨g, he, h1, h2, hb'⟩ => ⟨g, he, hS.mkA h1 h2 hb'⟩) (fun wz hS => by go_simp; try (with_reducible rfl))) (fun x : Nat => Value.pointer (some ⟨x, 0, none⟩)) (fun xa => (UnT w1) none none (some xa) none) (fun xa => (UnK w1 n (esK (zK f n))) none none (some xa) none false) (Turns.val rfl (fun _ _ h => h) (fun _ => (UnK.weak _ _ _ _ _)) (fun _ => UnK.clo) (fun wz hS => ⟨wz.heap.size, wz.alloc (.cells #[.slice none 0 0, .int .i64 0, .int .u8 0, .int .u8 0, .int .u8 0, .int .u8 0, .int .u8 0, .int .u8 0, .int .u8 0, .int .u8 0, .int .u8 0, .int .u8 0, .int .u8 0, .int .u8 0, .int .u8 0, .int .u8 0, .int .u8 0, .int .u8 0] 76), by go_simp; try (with_reducible rfl), hS.mkC rfl⟩)) (fun x : Nat => Value.pointer (some ⟨x, 0, none⟩)) (fun xb => (UnT w1) none none none (some xb)) (fun xb => (UnK w1 n (esK (zK f n))) none none none (some xb) false) (Turns.val rfl (fun _ _ h => h) (fun _ => (UnK.weak _ _ _ _ _)) (fun _ => UnK.clo) (fun wz hS => ⟨wz.heap.size, wz.alloc (.cells #[.slice none 0 0, .int .i64 0, .int .u8 0, .int .u8 0, .int .u8 0, .int .u8 0, .int .u8 0, .int .u8 0, .int .u8 0, .int .u8 0, .int .u8 0, .int .u8 0, .int .u8 0, .int .u8 0, .int .u8 0, .int .u8 0, .int .u8 0, .int .u8 0] 76), by go_simp; try (with_reducible rfl), hS.mkD rfl⟩)) (fun ga => ?rz1_6a) (fun xa => ?rz1_6b) (fun xb => ?rz1_6c)
  case' rz1_6a =>
   simp only [Zp, Zq, Zr, Zs]
   refine WpX.threeD 3 4 5 (some 19) (some 10) (some 11) rfl rfl rfl rfl rfl rfl (by kernel_rfl) (fun g : Nat => Value.agg (totL (.slice (some ⟨g, 0, none⟩) n n) 0 z16).toArray) (fun gb => (UnT w1) (some ga) (some gb) none none) (fun gb => (UnK w1 n (esK (zK f n))) (some ga) (some gb) none none false) (Turns.call rfl (fun _ _ h => h) (fun _ => (UnK.weak _ _ _ _ _)) (fun _ => UnK.clo) (fun wz hS => (HNEW.out wz).mono fun e w' ⟨g, he, h1, h2, hb'⟩ => ⟨g, he, hS.mkB h1 h2 hb'⟩) (fun wz hS => by go_simp; try (with_reducible rfl))) (fun x : Nat => Value.pointer (some ⟨x, 0, none⟩)) (fun xa => (UnT w1) (some ga) none (some xa) none) (fun xa => (UnK w1 n (esK (zK f n))) (some ga) none (some xa) none false) (Turns.val rfl (fun _ _ h => h) (fun _ => (UnK.weak _ _ _ _ _)) (fun _ => UnK.clo) (fun wz hS => ⟨wz.heap.size, wz.alloc (.cells #[.slice none 0 0, .int .i64 0, .int .u8 0, .int .u8 0, .int .u8 0, .int .u8 0, .int .u8 0, .int .u8 0, .int .u8 0, .int .u8 0, .int .u8 0, .int .u8 0, .int .u8 0, .int .u8 0, .int .u8 0, .int .u8 0, .int .u8 0, .int .u8 0] 76), by go_simp; try (with_reducible rfl), hS.mkC rfl⟩)) (fun x : Nat => Value.pointer (some ⟨x, 0, none⟩)) (fun xb => (UnT w1) (some ga) none none (some xb)) (fun xb => (UnK w1 n (esK (zK f n))) (some ga) none none (some xb) false) (Turns.val rfl (fun _ _ h => h) (fun _ => (UnK.weak _ _ _ _ _)) (fun _ => UnK.clo) (fun wz hS => ⟨wz.heap.size, wz.alloc (.cells #[.slice none 0 0, .int .i64 0, .int .u8 0, .int .u8 0, .int .u8 0, .int .u8 0, .int .u8 0, .int .u8 0, .int .u8 0, .int .u8 0, .int .u8 0, .int .u8 0, .int .u8 0, .int .u8 0, .int .u8 0, .int .u8 0, .int .u8 0, .int .u8 0] 76), by go_simp; try (with_reducible rfl), hS.mkD rfl⟩)) (fun gb => ?rz1_7a) (fun xa => ?rz1_7b) (fun xb => ?rz1_7c)
   case' rz1_7a =>
    simp only [Zp, Zq, Zr, Zs]
    refine WpX.twoD 4 5 (some 10) (some 11) rfl rfl rfl rfl (by kernel_rfl) (fun x : Nat => Value.pointer (some ⟨x, 0, none⟩)) (fun xa => (UnT w1) (some ga) (some gb) (some xa) none) (fun xa => (UnK w1 n (esK (zK f n))) (some ga) (some gb) (some xa) none false) (Turns.val rfl (fun _ _ h => h) (fun _ => (UnK.weak _ _ _ _ _)) (fun _ => UnK.clo) (fun wz hS => ⟨wz.heap.size, wz.alloc (.cells #[.slice none 0 0, .int .i64 0, .int .u8 0, .int .u8 0, .int .u8 0, .int .u8 0, .int .u8 0, .int .u8 0, .int .u8 0, .int .u8 0, .int .u8 0, .int .u8 0, .int .u8 0, .int .u8 0, .int .u8 0, .int .u8 0, .int .u8 0, .int .u8 0] 76), by go_simp; try (with_reducible rfl), hS.mkC rfl⟩)) (fun x : Nat => Value.pointer (some ⟨x, 0, none⟩)) (fun xb => (UnT w1) (some ga) (some gb) none (some xb)) (fun xb => (UnK w1 n (esK (zK f n))) (some ga) (some gb) none (some xb) false) (Turns.val rfl (fun _ _ h => h) (fun _ => (UnK.weak _ _ _ _ _)) (fun _ => UnK.clo) (fun wz hS => ⟨wz.heap.size, wz.alloc (.cells #[.slice none 0 0, .int .i64 0, .int .u8 0, .int .u8 0, .int .u8 0, .int .u8 0, .int .u8 0, .int .u8 0, .int .u8 0, .int .u8 0, .int .u8 0, .int .u8 0, .int .u8 0, .int .u8 0, .int .u8 0, .int .u8 0, .int .u8 0, .int .u8 0] 76), by go_simp; try (with_reducible rfl), hS.mkD rfl⟩)) (fun xa => ?rz1_8a) (fun xb => ?rz1_8b)
    case' rz1_8a =>
     simp only [Zp, Zq, Zr, Zs]
     refine WpX.oneD 5 (some 11) rfl rfl (by kernel_rfl) (fun x : Nat => Value.pointer (some ⟨x, 0, none⟩)) (fun xb => (UnT w1) (some ga) (some gb) (some xa) (some xb)) (fun xb => (UnK w1 n (esK (zK f n))) (some ga) (some gb) (some xa) (some xb) false) (Turns.val rfl (fun _ _ h => h) (fun _ => (UnK.weak _ _ _ _ _)) (fun _ => UnK.clo) (fun wz hS => ⟨wz.heap.size, wz.alloc (.cells #[.slice none 0 0, .int .i64 0, .int .u8 0, .int .u8 0, .int .u8 0, .int .u8 0, .int .u8 0, .int .u8 0, .int .u8 0, .int .u8 0, .int .u8 0, .int .u8 0, .int .u8 0, .int .u8 0, .int .u8 0, .int .u8 0, .int .u8 0, .int .u8 0] 76), by go_simp; try (with_reducible rfl), hS.mkD rfl⟩)) (fun xb => ?_)
     simp only [Zp, Zq, Zr, Zs]
     refine WpX.oneSkip 6 none rfl rfl (by kernel_rfl) ((UnT w1) (some ga) (some gb) (some xa) (some xb)) ((UnK w1 n (esK (zK f n))) (some ga) (some gb) (some xa) (some xb) true) (fun _ h => h) ((UnK.weak _ _ _ _ _)) (UnK.clo) rfl (fun wz hS => ?_) ?_
     ·(exact ⟨_, exec_store rfl (by kernel_rfl) (by kernel_rfl) (((hS.c xa rfl).2.1 rfl).storeT z16_length z16_length rfl), hS.put⟩)
     simp only [Act.put]
     refine WpX.done (by kernel_rfl) (fun w2 hS => ⟨ga, gb, xa, xb, rfl, ?_⟩)
     ·exact hS
    case' rz1_8b =>
     simp only [Zp, Zq, Zr, Zs]
     refine WpX.oneD 4 (some 10) rfl rfl (by kernel_rfl) (fun x : Nat => Value.pointer (some ⟨x, 0, none⟩)) (fun xa => (UnT w1) (some ga) (some gb) (some xa) (some xb)) (fun xa => (UnK w1 n (esK (zK f n))) (some ga) (some gb) (some xa) (some xb) false) (Turns.val rfl (fun _ _ h => h) (fun _ => (UnK.weak _ _ _ _ _)) (fun _ => UnK.clo) (fun wz hS => ⟨wz.heap.size, wz.alloc (.cells #[.slice none 0 0, .int .i64 0, .int .u8 0, .int .u8 0, .int .u8 0, .int .u8 0, .int .u8 0, .int .u8 0, .int .u8 0, .int .u8 0, .int .u8 0, .int .u8 0, .int .u8 0, .int .u8 0, .int .u8 0, .int .u8 0, .int .u8 0, .int .u8 0] 76), by go_simp; try (with_reducible rfl), hS.mkC rfl⟩)) (fun xa => ?_)
     simp only [Zp, Zq, Zr, Zs]
     refine WpX.oneSkip 6 none rfl rfl (by kernel_rfl) ((UnT w1) (some ga) (some gb) (some xa) (some xb)) ((UnK w1 n (esK (zK f n))) (some ga) (some gb) (some xa) (some xb) true) (fun _ h => h) ((UnK.weak _ _ _ _ _)) (UnK.clo) rfl (fun wz hS => ?_) ?_
     ·(exact ⟨_, exec_store rfl (by kernel_rfl) (by kernel_rfl) (((hS.c xa rfl).2.1 rfl).storeT z16_length z16_length rfl), hS.put⟩)
     simp only [Act.put]
     refine WpX.done (by kernel_rfl) (fun w2 hS => ⟨ga, gb, xa, xb, rfl, ?_⟩)
     ·exact hS
   case' rz1_7b =>
    simp only [Zp, Zq, Zr, Zs]
    refine WpX.twoD 3 5 (some 19) (some 11) rfl rfl rfl rfl (by kernel_rfl) (fun g : Nat => Value.agg (totL (.slice (some ⟨g, 0, none⟩) n n) 0 z16).toArray) (fun gb => (UnT w1) (some ga) (some gb) (some xa) none) (fun gb => (UnK w1 n (esK (zK f n))) (some ga) (some gb) (some xa) none false) (Turns.call rfl (fun _ _ h => h) (fun _ => (UnK.weak _ _ _ _ _)) (fun _ => UnK.clo) (fun wz hS => (HNEW.out wz).mono fun e w' ⟨g, he, h1, h2, hb'⟩ => ⟨g, he, hS.mkB h1 h2 hb'⟩) (fun wz hS => by go_simp; try (with_reducible rfl))) (fun x : Nat => Value.pointer (some ⟨x, 0, none⟩)) (fun xb => (UnT w1) (some ga) none (some xa) (some xb)) (fun xb => (UnK w1 n (esK (zK f n))) (some ga) none (some xa) (some xb) false) (Turns.val rfl (fun _ _ h => h) (fun _ => (UnK.weak _ _ _ _ _)) (fun _ => UnK.clo) (fun wz hS => ⟨wz.heap.size, wz.alloc (.cells #[.slice none 0 0, .int .i64 0, .int .u8 0, .int .u8 0, .int .u8 0, .int .u8 0, .int .u8 0, .int .u8 0, .int .u8 0, .int .u8 0, .int .u8 0, .int .u8 0, .int .u8 0, .int .u8 0, .int .u8 0, .int .u8 0, .int .u8 0, .int .u8 0] 76), by go_simp; try (with_reducible rfl), hS.mkD rfl⟩)) (fun gb => ?rz1_9a) (fun xb => ?rz1_9b)
    case' rz1_9a =>
     simp only [Zp, Zq, Zr, Zs]
     refine WpX.oneD 5 (some 11) rfl rfl (by kernel_rfl) (fun x : Nat => Value.pointer (some ⟨x, 0, none⟩)) (fun xb => (UnT w1) (some ga) (some gb) (some xa) (some xb)) (fun xb => (UnK w1 n (esK (zK f n))) (some ga) (some gb) (some xa) (some xb) false) (Turns.val rfl (fun _ _ h => h) (fun _ => (UnK.weak _ _ _ _ _)) (fun _ => UnK.clo) (fun wz hS => ⟨wz.heap.size, wz.alloc (.cells #[.slice none 0 0, .int .i64 0, .int .u8 0, .int .u8 0, .int .u8 0, .int .u8 0, .int .u8 0, .int .u8 0, .int .u8 0, .int .u8 0, .int .u8 0, .int .u8 0, .int .u8 0, .int .u8 0, .int .u8 0, .int .u8 0, .int .u8 0, .int .u8 0] 76), by go_simp; try (with_reducible rfl), hS.mkD rfl⟩)) (fun xb => ?_)
     simp only [Zp, Zq, Zr, Zs]
     refine WpX.oneSkip 6 none rfl rfl (by kernel_rfl) ((UnT w1) (some ga) (some gb) (some xa) (some xb)) ((UnK w1 n (esK (zK f n))) (some ga) (some gb) (some xa) (some xb) true) (fun _ h => h) ((UnK.weak _ _ _ _ _)) (UnK.clo) rfl (fun wz hS => ?_) ?_
     ·(exact ⟨_, exec_store rfl (by kernel_rfl) (by kernel_rfl) (((hS.c xa rfl).2.1 rfl).storeT z16_length z16_length rfl), hS.put⟩)
     simp only [Act.put]
     refine WpX.done (by kernel_rfl) (fun w2 hS => ⟨ga, gb, xa, xb, rfl, ?_⟩)
     ·exact hS
    case' rz1_9b =>
     simp only [Zp, Zq, Zr, Zs]
     refine WpX.oneD 3 (some 19) rfl rfl (by kernel_rfl) (fun g : Nat => Value.agg (totL (.slice (some ⟨g, 0, none⟩) n n) 0 z16).toArray) (fun gb => (UnT w1) (some ga) (some gb) (some xa) (some xb)) (fun gb => (UnK w1 n (esK (zK f n))) (some ga) (some gb) (some xa) (some xb) false) (Turns.call rfl (fun _ _ h => h) (fun _ => (UnK.weak _ _ _ _ _)) (fun _ => UnK.clo) (fun wz hS => (HNEW.out wz).mono fun e w' ⟨g, he, h1, h2, hb'⟩ => ⟨g, he, hS.mkB h1 h2 hb'⟩) (fun wz hS => by go_simp; try (with_reducible rfl))) (fun gb => ?_)
     simp only [Zp, Zq, Zr, Zs]
     refine WpX.oneSkip 6 none rfl rfl (by kernel_rfl) ((UnT w1) (some ga) (some gb) (some xa) (some xb)) ((UnK w1 n (esK (zK f n))) (some ga) (some gb) (some xa) (some xb) true) (fun _ h => h) ((UnK.weak _ _ _ _ _)) (UnK.clo) rfl (fun wz hS => ?_) ?_
     ·(exact ⟨_, exec_store rfl (by kernel_rfl) (by kernel_rfl) (((hS.c xa rfl).2.1 rfl).storeT z16_length z16_length rfl), hS.put⟩)
     simp only [Act.put]
     refine WpX.done (by kernel_rfl) (fun w2 hS => ⟨ga, gb, xa, xb, rfl, ?_⟩)
     ·exact hS
   case' rz1_7c =>
    simp only [Zp, Zq, Zr, Zs]
    refine WpX.twoD 3 4 (some 19) (some 10) rfl rfl rfl rfl (by kernel_rfl) (fun g : Nat => Value.agg (totL (.slice (some ⟨g, 0, none⟩) n n) 0 z16).toArray) (fun gb => (UnT w1) (some ga) (some gb) none (some xb)) (fun gb => (UnK w1 n (esK (zK f n))) (some ga) (some gb) none (some xb) false) (Turns.call rfl (fun _ _ h => h) (fun _ => (UnK.weak _ _ _ _ _)) (fun _ => UnK.clo) (fun wz hS => (HNEW.out wz).mono fun e w' ⟨g, he, h1, h2, hb'⟩ => ⟨g, he, hS.mkB h1 h2 hb'⟩) (fun wz hS => by go_simp; try (with_reducible rfl))) (fun x : Nat => Value.pointer (some ⟨x, 0, none⟩)) (fun xa => (UnT w1) (some ga) none (some xa) (some xb)) (fun xa => (UnK w1 n (esK (zK f n))) (some ga) none (some xa) (some xb) false) (Turns.val rfl (fun _ _ h => h) (fun _ => (UnK.weak _ _ _ _ _)) (fun _ => UnK.clo) (fun wz hS => ⟨wz.heap.size, wz.alloc (.cells #[.slice none 0 0, .int .i64 0, .int .u8 0, .int .u8 0, .int .u8 0, .int .u8 0, .int .u8 0, .int .u8 0, .int .u8 0, .int .u8 0, .int .u8 0, .int .u8 0, .int .u8 0, .int .u8 0, .int .u8 0, .int .u8 0, .int .u8 0, .int .u8 0] 76), by go_simp; try (with_reducible rfl), hS.mkC rfl⟩)) (fun gb => ?rz1_10a) (fun xa => ?rz1_10b)
    case' rz1_10a =>
     simp only [Zp, Zq, Zr, Zs]
     refine WpX.oneD 4 (some 10) rfl rfl (by kernel_rfl) (fun x : Nat => Value.pointer (some ⟨x, 0, none⟩)) (fun xa => (UnT w1) (some ga) (some gb) (some xa) (some xb)) (fun xa => (UnK w1 n (esK (zK f n))) (some ga) (some gb) (some xa) (some xb) false) (Turns.val rfl (fun _ _ h => h) (fun _ => (UnK.weak _ _ _ _ _)) (fun _ => UnK.clo) (fun wz hS => ⟨wz.heap.size, wz.alloc (.cells #[.slice none 0 0, .int .i64 0, .int .u8 0, .int .u8 0, .int .u8 0, .int .u8 0, .int .u8 0, .int .u8 0, .int .u8 0, .int .u8 0, .int .u8 0, .int .u8 0, .int .u8 0, .int .u8 0, .int .u8 0, .int .u8 0, .int .u8 0, .int .u8 0] 76), by go_simp; try (with_reducible rfl), hS.mkC rfl⟩)) (fun xa => ?_)
     simp only [Zp, Zq, Zr, Zs]
     refine WpX.oneSkip 6 none rfl rfl (by kernel_rfl) ((UnT w1) (some ga) (some gb) (some xa) (some xb)) ((UnK w1 n (esK (zK f n))) (some ga) (some gb) (some xa) (some xb) true) (fun _ h => h) ((UnK.weak _ _ _ _ _)) (UnK.clo) rfl (fun wz hS => ?_) ?_
     ·(exact ⟨_, exec_store rfl (by kernel_rfl) (by kernel_rfl) (((hS.c xa rfl).2.1 rfl).storeT z16_length z16_length rfl), hS.put⟩)
     simp only [Act.put]
     refine WpX.done (by kernel_rfl) (fun w2 hS => ⟨ga, gb, xa, xb, rfl, ?_⟩)
     ·exact hS
    case' rz1_10b =>
     simp only [Zp, Zq, Zr, Zs]
     refine WpX.oneD 3 (some 19) rfl rfl (by kernel_rfl) (fun g : Nat => Value.agg (totL (.slice (some ⟨g, 0, none⟩) n n) 0 z16).toArray) (fun gb => (UnT w1) (some ga) (some gb) (some xa) (some xb)) (fun gb => (UnK w1 n (esK (zK f n))) (some ga) (some gb) (some xa) (some xb) false) (Turns.call rfl (fun _ _ h => h) (fun _ => (UnK.weak _ _ _ _ _)) (fun _ => UnK.clo) (fun wz hS => (HNEW.out wz).mono fun e w' ⟨g, he, h1, h2, hb'⟩ => ⟨g, he, hS.mkB h1 h2 hb'⟩) (fun wz hS => by go_simp; try (with_reducible rfl))) (fun gb => ?_)
     simp only [Zp, Zq, Zr, Zs]
     refine WpX.oneSkip 6 none rfl rfl (by kernel_rfl) ((UnT w1) (some ga) (some gb) (some xa) (some xb)) ((UnK w1 n (esK (zK f n))) (some ga) (some gb) (some xa) (some xb) true) (fun _ h => h) ((UnK.weak _ _ _ _ _)) (UnK.clo) rfl (fun wz hS => ?_) ?_
     ·(exact ⟨_, exec_store rfl (by kernel_rfl) (by kernel_rfl) (((hS.c xa rfl).2.1 rfl).storeT z16_length z16_length rfl), hS.put⟩)
     simp only [Act.put]
     refine WpX.done (by kernel_rfl) (fun w2 hS => ⟨ga, gb, xa, xb, rfl, ?_⟩)
     ·exact hS
  case' rz1_6b =>
   simp only [Zp, Zq, Zr, Zs]
   refine WpX.twoD 1 5 (some 17) (some 11) rfl rfl rfl rfl (by kernel_rfl) (fun g : Nat => Value.agg (totL (.slice (some ⟨g, 0, none⟩) n n) 0 z16).toArray) (fun ga => (UnT w1) (some ga) none (some xa) none) (fun ga => (UnK w1 n (esK (zK f n))) (some ga) none (some xa) none false) (Turns.call rfl (fun _ _ h => h) (fun _ => (UnK.weak _ _ _ _ _)) (fun _ => UnK.clo) (fun wz hS => (HNEW.out wz).mono fun e w' ⟨g, he, h1, h2, hb'⟩ => ⟨g, he, hS.mkA h1 h2 hb'⟩) (fun wz hS => by go_simp; try (with_reducible rfl))) (fun x : Nat => Value.pointer (some ⟨x, 0, none⟩)) (fun xb => (UnT w1) none none (some xa) (some xb)) (fun xb => (UnK w1 n (esK (zK f n))) none none (some xa) (some xb) false) (Turns.val rfl (fun _ _ h => h) (fun _ => (UnK.weak _ _ _ _ _)) (fun _ => UnK.clo) (fun wz hS => ⟨wz.heap.size, wz.alloc (.cells #[.slice none 0 0, .int .i64 0, .int .u8 0, .int .u8 0, .int .u8 0, .int .u8 0, .int .u8 0, .int .u8 0, .int .u8 0, .int .u8 0, .int .u8 0, .int .u8 0, .int .u8 0, .int .u8 0, .int .u8 0, .int .u8 0, .int .u8 0, .int .u8 0] 76), by go_simp; try (with_reducible rfl), hS.mkD rfl⟩)) (fun ga => ?rz1_11a) (fun xb => ?rz1_11b)
   case' rz1_11a =>
    simp only [Zp, Zq, Zr, Zs]
    refine WpX.twoD 3 5 (some 19) (some 11) rfl rfl rfl rfl (by kernel_rfl) (fun g : Nat => Value.agg (totL (.slice (some ⟨g, 0, none⟩) n n) 0 z16).toArray) (fun gb => (UnT w1) (some ga) (some gb) (some xa) none) (fun gb => (UnK w1 n (esK (zK f n))) (some ga) (some gb) (some xa) none false) (Turns.call rfl (fun _ _ h => h) (fun _ => (UnK.weak _ _ _ _ _)) (fun _ => UnK.clo) (fun wz hS => (HNEW.out wz).mono fun e w' ⟨g, he, h1, h2, hb'⟩ => ⟨g, he, hS.mkB h1 h2 hb'⟩) (fun wz hS => by go_simp; try (with_reducible rfl))) (fun x : Nat => Value.pointer (some ⟨x, 0, none⟩)) (fun xb => (UnT w1) (some ga) none (some xa) (some xb)) (fun xb => (UnK w1 n (esK (zK f n))) (some ga) none (some xa) (some xb) false) (Turns.val rfl (fun _ _ h => h) (fun _ => (UnK.weak _ _ _ _ _)) (fun _ => UnK.clo) (fun wz hS => ⟨wz.heap.size, wz.alloc (.cells #[.slice none 0 0, .int .i64 0, .int .u8 0, .int .u8 0, .int .u8 0, .int .u8 0, .int .u8 0, .int .u8 0, .int .u8 0, .int .u8 0, .int .u8 0, .int .u8 0, .int .u8 0, .int .u8 0, .int .u8 0, .int .u8 0, .int .u8 0, .int .u8 0] 76), by go_simp; try (with_reducible rfl), hS.mkD rfl⟩)) (fun gb => ?rz1_12a) (fun xb => ?rz1_12b)
    case' rz1_12a =>
     simp only [Zp, Zq, Zr, Zs]
     refine WpX.oneD 5 (some 11) rfl rfl (by kernel_rfl) (fun x : Nat => Value.pointer (some ⟨x, 0, none⟩)) (fun xb => (UnT w1) (some ga) (some gb) (some xa) (some xb)) (fun xb => (UnK w1 n (esK (zK f n))) (some ga) (some gb) (some xa) (some xb) false) (Turns.val rfl (fun _ _ h => h) (fun _ => (UnK.weak _ _ _ _ _)) (fun _ => UnK.clo) (fun wz hS => ⟨wz.heap.size, wz.alloc (.cells #[.slice none 0 0, .int .i64 0, .int .u8 0, .int .u8 0, .int .u8 0, .int .u8 0, .int .u8 0, .int .u8 0, .int .u8 0, .int .u8 0, .int .u8 0, .int .u8 0, .int .u8 0, .int .u8 0, .int .u8 0, .int .u8 0, .int .u8 0, .int .u8 0] 76), by go_simp; try (with_reducible rfl), hS.mkD rfl⟩)) (fun xb => ?_)
     simp only [Zp, Zq, Zr, Zs]
     refine WpX.oneSkip 6 none rfl rfl (by kernel_rfl) ((UnT w1) (some ga) (some gb) (some xa) (some xb)) ((UnK w1 n (esK (zK f n))) (some ga) (some gb) (some xa) (some xb) true) (fun _ h => h) ((UnK.weak _ _ _ _ _)) (UnK.clo) rfl (fun wz hS => ?_) ?_
     ·(exact ⟨_, exec_store rfl (by kernel_rfl) (by kernel_rfl) (((hS.c xa rfl).2.1 rfl).storeT z16_length z16_length rfl), hS.put⟩)
     simp only [Act.put]
     refine WpX.done (by kernel_rfl) (fun w2 hS => ⟨ga, gb, xa, xb, rfl, ?_⟩)
     ·exact hS
    case' rz1_12b =>
     simp only [Zp, Zq, Zr, Zs]
     refine WpX.oneD 3 (some 19) rfl rfl (by kernel_rfl) (fun g : Nat => Value.agg (totL (.slice (some ⟨g, 0, none⟩) n n) 0 z16).toArray) (fun gb => (UnT w1) (some ga) (some gb) (some xa) (some xb)) (fun gb => (UnK w1 n (esK (zK f n))) (some ga) (some gb) (some xa) (some xb) false) (Turns.call rfl (fun _ _ h => h) (fun _ => (UnK.weak _ _ _ _ _)) (fun _ => UnK.clo) (fun wz hS => (HNEW.out wz).mono fun e w' ⟨g, he, h1, h2, hb'⟩ => ⟨g, he, hS.mkB h1 h2 hb'⟩) (fun wz hS => by go_simp; try (with_reducible rfl))) (fun gb => ?_)
     simp only [Zp, Zq, Zr, Zs]
     refine WpX.oneSkip 6 none rfl rfl (by kernel_rfl) ((UnT w1) (some ga) (some gb) (some xa) (some xb)) ((UnK w1 n (esK (zK f n))) (some ga) (some gb) (some xa) (some xb) true) (fun _ h => h) ((UnK.weak _ _ _ _ _)) (UnK.clo) rfl (fun wz hS => ?_) ?_
     ·(exact ⟨_, exec_store rfl (by kernel_rfl) (by kernel_rfl) (((hS.c xa rfl).2.1 rfl).storeT z16_length z16_length rfl), hS.put⟩)
     simp only [Act.put]
     refine WpX.done (by kernel_rfl) (fun w2 hS => ⟨ga, gb, xa, xb, rfl, ?_⟩)
     ·exact hS
   case' rz1_11b =>
    simp only [Zp, Zq, Zr, Zs]
    refine WpX.oneD 1 (some 17) rfl rfl (by kernel_rfl) (fun g : Nat => Value.agg (totL (.slice (some ⟨g, 0, none⟩) n n) 0 z16).toArray) (fun ga => (UnT w1) (some ga) none (some xa) (some xb)) (fun ga => (UnK w1 n (esK (zK f n))) (some ga) none (some xa) (some xb) false) (Turns.call rfl (fun _ _ h => h) (fun _ => (UnK.weak _ _ _ _ _)) (fun _ => UnK.clo) (fun wz hS => (HNEW.out wz).mono fun e w' ⟨g, he, h1, h2, hb'⟩ => ⟨g, he, hS.mkA h1 h2 hb'⟩) (fun wz hS => by go_simp; try (with_reducible rfl))) (fun ga => ?_)
    simp only [Zp, Zq, Zr, Zs]
    refine WpX.oneD 3 (some 19) rfl rfl (by kernel_rfl) (fun g : Nat => Value.agg (totL (.slice (some ⟨g, 0, none⟩) n n) 0 z16).toArray) (fun gb => (UnT w1) (some ga) (some gb) (some xa) (some xb)) (fun gb => (UnK w1 n (esK (zK f n))) (some ga) (some gb) (some xa) (some xb) false) (Turns.call rfl (fun _ _ h => h) (fun _ => (UnK.weak _ _ _ _ _)) (fun _ => UnK.clo) (fun wz hS => (HNEW.out wz).mono fun e w' ⟨g, he, h1, h2, hb'⟩ => ⟨g, he, hS.mkB h1 h2 hb'⟩) (fun wz hS => by go_simp; try (with_reducible rfl))) (fun gb => ?_)
    simp only [Zp, Zq, Zr, Zs]
    refine WpX.oneSkip 6 none rfl rfl (by kernel_rfl) ((UnT w1) (some ga) (some gb) (some xa) (some xb)) ((UnK w1 n (esK (zK f n))) (some ga) (some gb) (some xa) (some xb) true) (fun _ h => h) ((UnK.weak _ _ _ _ _)) (UnK.clo) rfl (fun wz hS => ?_) ?_
    ·(exact ⟨_, exec_store rfl (by kernel_rfl) (by kernel_rfl) (((hS.c xa rfl).2.1 rfl).storeT z16_length z16_length rfl), hS.put⟩)
    simp only [Act.put]
    refine WpX.done (by kernel_rfl) (fun w2 hS => ⟨ga, gb, xa, xb, rfl, ?_⟩)
    ·exact hS
  case' rz1_6c =>
   simp only [Zp, Zq, Zr, Zs]
   refine WpX.twoD 1 4 (some 17) (some 10) rfl rfl rfl rfl (by kernel_rfl) (fun g : Nat => Value.agg (totL (.slice (some ⟨g, 0, none⟩) n n) 0 z16).toArray) (fun ga => (UnT w1) (some ga) none none (some xb)) (fun ga => (UnK w1 n (esK (zK f n))) (some ga) none none (some xb) false) (Turns.call rfl (fun _ _ h => h) (fun _ => (UnK.weak _ _ _ _ _)) (fun _ => UnK.clo) (fun wz hS => (HNEW.out wz).mono fun e w' ⟨g, he, h1, h2, hb'⟩ => ⟨g, he, hS.mkA h1 h2 hb'⟩) (fun wz hS => by go_simp; try (with_reducible rfl))) (fun x : Nat => Value.pointer (some ⟨x, 0, none⟩)) (fun xa => (UnT w1) none none (some xa) (some xb)) (fun xa => (UnK w1 n (esK (zK f n))) none none (some xa) (some xb) false) (Turns.val rfl (fun _ _ h => h) (fun _ => (UnK.weak _ _ _ _ _)) (fun _ => UnK.clo) (fun wz hS => ⟨wz.heap.size, wz.alloc (.cells #[.slice none 0 0, .int .i64 0, .int .u8 0, .int .u8 0, .int .u8 0, .int .u8 0, .int .u8 0, .int .u8 0, .int .u8 0, .int .u8 0, .int .u8 0, .int .u8 0, .int .u8 0, .int .u8 0, .int .u8 0, .int .u8 0, .int .u8 0, .int .u8 0] 76), by go_simp; try (with_reducible rfl), hS.mkC rfl⟩)) (fun ga => ?rz1_13a) (fun xa => ?rz1_13b)
   case' rz1_13a =>
    simp only [Zp, Zq, Zr, Zs]
    refine WpX.twoD 3 4 (some 19) (some 10) rfl rfl rfl rfl (by kernel_rfl) (fun g : Nat => Value.agg (totL (.slice (some ⟨g, 0, none⟩) n n) 0 z16).toArray) (fun gb => (UnT w1) (some ga) (some gb) none (some xb)) (fun gb => (UnK w1 n (esK (zK f n))) (some ga) (some gb) none (some xb) false) (Turns.call rfl (fun _ _ h => h) (fun _ => (UnK.weak _ _ _ _ _)) (fun _ => UnK.clo) (fun wz hS => (HNEW.out wz).mono fun e w' ⟨g, he, h1, h2, hb'⟩ => ⟨g, he, hS.mkB h1 h2 hb'⟩) (fun wz hS => by go_simp; try (with_reducible rfl))) (fun x : Nat => Value.pointer (some ⟨x, 0, none⟩)) (fun xa => (UnT w1) (some ga) none (some xa) (some xb)) (fun xa => (UnK w1 n (esK (zK f n))) (some ga) none (some xa) (some xb) false) (Turns.val rfl (fun _ _ h => h) (fun _ => (UnK.weak _ _ _ _ _)) (fun _ => UnK.clo) (fun wz hS => ⟨wz.heap.size, wz.alloc (.cells #[.slice none 0 0, .int .i64 0, .int .u8 0, .int .u8 0, .int .u8 0, .int .u8 0, .int .u8 0, .int .u8 0, .int .u8 0, .int .u8 0, .int .u8 0, .int .u8 0, .int .u8 0, .int .u8 0, .int .u8 0, .int .u8 0, .int .u8 0, .int .u8 0] 76), by go_simp; try (with_reducible rfl), hS.mkC rfl⟩)) (fun gb => ?rz1_14a) (fun xa => ?rz1_14b)
    case' rz1_14a =>
     simp only [Zp, Zq, Zr, Zs]
     refine WpX.oneD 4 (some 10) rfl rfl (by kernel_rfl) (fun x : Nat => Value.pointer (some ⟨x, 0, none⟩)) (fun xa => (UnT w1) (some ga) (some gb) (some xa) (some xb)) (fun xa => (UnK w1 n (esK (zK f n))) (some ga) (some gb) (some xa) (some xb) false) (Turns.val rfl (fun _ _ h => h) (fun _ => (UnK.weak _ _ _ _ _)) (fun _ => UnK.clo) (fun wz hS => ⟨wz.heap.size, wz.alloc (.cells #[.slice none 0 0, .int .i64 0, .int .u8 0, .int .u8 0, .int .u8 0, .int .u8 0, .int .u8 0, .int .u8 0, .int .u8 0, .int .u8 0, .int .u8 0, .int .u8 0, .int .u8 0, .int .u8 0, .int .u8 0, .int .u8 0, .int .u8 0, .int .u8 0] 76), by go_simp; try (with_reducible rfl), hS.mkC rfl⟩)) (fun xa => ?_)
     simp only [Zp, Zq, Zr, Zs]
     refine WpX.oneSkip 6 none rfl rfl (by kernel_rfl) ((UnT w1) (some ga) (some gb) (some xa) (some xb)) ((UnK w1 n (esK (zK f n))) (some ga) (some gb) (some xa) (some xb) true) (fun _ h => h) ((UnK.weak _ _ _ _ _)) (UnK.clo) rfl (fun wz hS => ?_) ?_
     ·(exact ⟨_, exec_store rfl (by kernel_rfl) (by kernel_rfl) (((hS.c xa rfl).2.1 rfl).storeT z16_length z16_length rfl), hS.put⟩)
     simp only [Act.put]
     refine WpX.done (by kernel_rfl) (fun w2 hS => ⟨ga, gb, xa, xb, rfl, ?_⟩)
     ·exact hS
    case' rz1_14b =>
     simp only [Zp, Zq, Zr, Zs]
     refine WpX.oneD 3 (some 19) rfl rfl (by kernel_rfl) (fun g : Nat => Value.agg (totL (.slice (some ⟨g, 0, none⟩) n n) 0 z16).toArray) (fun gb => (UnT w1) (some ga) (some gb) (some xa) (some xb)) (fun gb => (UnK w1 n (esK (zK f n))) (some ga) (some gb) (some xa) (some xb) false) (Turns.call rfl (fun _ _ h => h) (fun _ => (UnK.weak _ _ _ _ _)) (fun _ => UnK.clo) (fun wz hS => (HNEW.out wz).mono fun e w' ⟨g, he, h1, h2, hb'⟩ => ⟨g, he, hS.mkB h1 h2 hb'⟩) (fun wz hS => by go_simp; try (with_reducible rfl))) (fun gb => ?_)
     simp only [Zp, Zq, Zr, Zs]
     refine WpX.oneSkip 6 none rfl rfl (by kernel_rfl) ((UnT w1) (some ga) (some gb) (some xa) (some xb)) ((UnK w1 n (esK (zK f n))) (some ga) (some gb) (some xa) (some xb) true) (fun _ h => h) ((UnK.weak _ _ _ _ _)) (UnK.clo) rfl (fun wz hS => ?_) ?_
     ·(exact ⟨_, exec_store rfl (by kernel_rfl) (by kernel_rfl) (((hS.c xa rfl).2.1 rfl).storeT z16_length z16_length rfl), hS.put⟩)
     simp only [Act.put]
     refine WpX.done (by kernel_rfl) (fun w2 hS => ⟨ga, gb, xa, xb, rfl, ?_⟩)
     ·exact hS
   case' rz1_13b =>
    simp only [Zp, Zq, Zr, Zs]
    refine WpX.oneD 1 (some 17) rfl rfl (by kernel_rfl) (fun g : Nat => Value.agg (totL (.slice (some ⟨g, 0, none⟩) n n) 0 z16).toArray) (fun ga => (UnT w1) (some ga) none (some xa) (some xb)) (fun ga => (UnK w1 n (esK (zK f n))) (some ga) none (some xa) (some xb) false) (Turns.call rfl (fun _ _ h => h) (fun _ => (UnK.weak _ _ _ _ _)) (fun _ => UnK.clo) (fun wz hS => (HNEW.out wz).mono fun e w' ⟨g, he, h1, h2, hb'⟩ => ⟨g, he, hS.mkA h1 h2 hb'⟩) (fun wz hS => by go_simp; try (with_reducible rfl))) (fun ga => ?_)
    simp only [Zp, Zq, Zr, Zs]
    refine WpX.oneD 3 (some 19) rfl rfl (by kernel_rfl) (fun g : Nat => Value.agg (totL (.slice (some ⟨g, 0, none⟩) n n) 0 z16).toArray) (fun gb => (UnT w1) (some ga) (some gb) (some xa) (some xb)) (fun gb => (UnK w1 n (esK (zK f n))) (some ga) (some gb) (some xa) (some xb) false) (Turns.call rfl (fun _ _ h => h) (fun _ => (UnK.weak _ _ _ _ _)) (fun _ => UnK.clo) (fun wz hS => (HNEW.out wz).mono fun e w' ⟨g, he, h1, h2, hb'⟩ => ⟨g, he, hS.mkB h1 h2 hb'⟩) (fun wz hS => by go_simp; try (with_reducible rfl))) (fun gb => ?_)
    simp only [Zp, Zq, Zr, Zs]
    refine WpX.oneSkip 6 none rfl rfl (by kernel_rfl) ((UnT w1) (some ga) (some gb) (some xa) (some xb)) ((UnK w1 n (esK (zK f n))) (some ga) (some gb) (some xa) (some xb) true) (fun _ h => h) ((UnK.weak _ _ _ _ _)) (UnK.clo) rfl (fun wz hS => ?_) ?_
    ·(exact ⟨_, exec_store rfl (by kernel_rfl) (by kernel_rfl) (((hS.c xa rfl).2.1 rfl).storeT z16_length z16_length rfl), hS.put⟩)
    simp only [Act.put]
    refine WpX.done (by kernel_rfl) (fun w2 hS => ⟨ga, gb, xa, xb, rfl, ?_⟩)
    ·exact hS
 intro ga gb xa xb w2 hS
 (try simp only [List.drop_succ_cons]); (try simp only [List.drop_zero]); (try simp only [Nat.reduceSub]); (try simp only [List.take_succ_cons]); (try simp only [List.take_zero])
 obtain ⟨hxa1, _, hXA0⟩ := hS.c xa rfl
 have hXA := hXA0 rfl ga rfl
 obtain ⟨hxb1, hXB⟩ := hS.d xb rfl
 obtain ⟨hga1, hGA⟩ := hS.a ga rfl
 obtain ⟨hgb1, hGB⟩ := hS.b gb rfl
 have hxne := hS.e xa xb rfl rfl
 have hst := hXB.storeT (k := z16) (v := .slice (some ⟨gb, 0, none⟩) n n) (m := 0) z16_length z16_length rfl
 have hXB2 := hXB.setT (k := z16) (v := .slice (some ⟨gb, 0, none⟩) n n) (m := 0) z16_length z16_length
 have n2 := blk_vs (A := none) (n := 0) (c := 0) (m := 0) (k := z16) hGA hXB
 have n4 := blk_vs (A := none) (n := 0) (c := 0) (m := 0) (k := z16) hGB hXB
 have hbt := hS.t
 have hs0 := hb00.size
 have HTI : Hid (TtI w n xa xb [.int .u8 k, .int .u8 F, .int .i64 b, .int .i64 l, .int .i64 m, .int .i64 c, .int .i64 p, .string s] ga gb (0 : Nat) (0 : Nat) (chkI 0) (chkI 0) (List.replicate n (sumI e1 0)) (List.replicate n (sumI e2 0)) (w2.setCells xb 0 (totL (.slice (some ⟨gb, 0, none⟩) n n) 0 z16))) :=
  ⟨bl_setCells (hb00.trans (hbt.mono hs0)) (by omega) _ _, (hT.call hbt).farW (by omega) _ _, (hr.call hbt).farW (by omega) _ _, (hr2.call hbt).farW (by omega) _ _, hXA.farW hxne.symm _ _, hXB2, hGA.farC n2.symm _ _, hGB.farC n4.symm _ _, by omega, by omega, hxne, by omega, by omega⟩
 clear hS hXA0 hXA hXB hGA hGB hbt hXB2 hT hr hr2 hb00 hr2l hxa1 hxb1 hga1 hgb1 hxne n2 n4 hs0
 refine wpList_skipD rfl rfl (exec_store rfl (by kernel_rfl) (by kernel_rfl) hst) ?_
 clear hst HNEW HT1
 generalize w2.setCells xb 0 (totL (.slice (some ⟨gb, 0, none⟩) n n) 0 z16) = w3 at HTI ⊢
 go_upto_region 2 with fail
 go_wp2_with fail
 rw [HM.out.1]
 go_loopw [22] (fun v22 wr => ∃ (i ga gb : Nat), i ≤ q ∧ v22 = .int .u8 i ∧ TtI w n xa xb [.int .u8 k, .int .u8 F, .int .i64 b, .int .i64 l, .int .i64 m, .int .i64 c, .int .i64 p, .string s] ga gb (i : Nat) (i : Nat) (chkI i) (chkI i) (List.replicate n (sumI e1 i)) (List.replicate n (sumI e2 i)) wr) (fun v22 _ => q - (intOf v22).toNat)
 case atStart => exact ⟨0, ga, gb, Nat.zero_le _, rfl, HTI.out⟩
 case round =>
  clear HTI
  obtain ⟨i, ga, gb, hiq, rfl, hI⟩ := hrel
  obtain ⟨wo, hwo⟩ : ∃ z : World, z = wr := ⟨wr, rfl⟩
  subst hwo
  have HTI := Lib.hid hI
  by_cases hlt : i < q
  ·have hi1 : (i : Int) < (q : Int) := by omega
   clear hI
   go_upto_region 5 with fail
   have HMK : Hid (∀ wz, (Instr.makeSlice 73 (.int .i64 (n : Int)) (.int .i64 (n : Int))).run Try.prog wz = .ok (.slice (some ⟨wz.heap.size, 0, none⟩) n n) (wz.alloc (.cells (cellsE (List.replicate n (0, 0))).toArray 99))) := Lib.hid fun wz => make_elem n (by omega) wz
   apply region_Z2 (n := 9) (m := 10) (f := 9) (fun x0 x1 => (MkK wo (List.replicate n (0,0))) (some x0) (some x1) ) ((MkT wo) none none) ((MkK wo (List.replicate n (0,0))) none none) ((MkK.weak _ _)) (MkK.clo) ((MkK.start wo))
   case hm => kernel_rfl
   case hB => kernel_rfl
   case hf => rfl
   case' h =>
    refine WpX.vD 0 (some 25) ?_ rfl rfl (by kernel_rfl) (fun _ _ _ h => h) rfl (fun wz hwz => ?_) ?_
    rotate_left
    ·go_simp; try (with_reducible rfl)
    simp only [Zp, Zq, Zr, Zs]
    refine WpX.vD 1 (some 26) ?_ rfl rfl (by kernel_rfl) (fun _ _ _ h => h) rfl (fun wz hwz => ?_) ?_
    rotate_left
    ·(have hz := (HTI.out.call hwz).t.get8; obtain ⟨⟨z0, z1, z2, z3, z4, z5, z6, z7⟩, ⟨y0, y1, y2, y3, y4, y5, y6, y7⟩, y8⟩ := hz; go_simp; try (with_reducible rfl))
    simp only [Zp, Zq, Zr, Zs]
    refine WpX.takeD 2 (some 27) rfl rfl (by kernel_rfl) (fun _ _ _ h => h) (.call rfl (fun wz hwz => HO.out wz) (fun wz hwz => ?_)) ?_
    ·go_simp; try (with_reducible rfl)
    simp only [Zp, Zq, Zr, Zs]
    refine WpX.vD 4 (some 29) ?_ rfl rfl (by kernel_rfl) (fun _ _ _ h => h) rfl (fun wz hwz => ?_) ?_
    rotate_left
    ·go_simp; try (with_reducible rfl)
    simp only [Zp, Zq, Zr, Zs]
    refine WpX.vD 5 (some 30) ?_ rfl rfl (by kernel_rfl) (fun _ _ _ h => h) rfl (fun wz hwz => ?_) ?_
    rotate_left
    ·(have hz := (HTI.out.call hwz).t.get8; obtain ⟨⟨z0, z1, z2, z3, z4, z5, z6, z7⟩, ⟨y0, y1, y2, y3, y4, y5, y6, y7⟩, y8⟩ := hz; go_simp; try (with_reducible rfl))
    simp only [Zp, Zq, Zr, Zs]
    refine WpX.takeD 6 (some 31) rfl rfl (by kernel_rfl) (fun _ _ _ h => h) (.call rfl (fun wz hwz => HO.out wz) (fun wz hwz => ?_)) ?_
    ·go_simp; try (with_reducible rfl)
    simp only [Zp, Zq, Zr, Zs]
    refine WpX.twoD 3 7 (some 28) (some 32) rfl rfl rfl rfl (by kernel_rfl) (fun g : Nat => Value.slice (some ⟨g, 0, none⟩) n n) (fun g1 => (MkT wo) (some g1) none) (fun g1 => (MkK wo (List.replicate n (0,0))) (some g1) none) (Turns.val rfl (fun _ _ h => h) (fun _ => (MkK.weak _ _)) (fun _ => MkK.clo) (fun wz hS => ⟨wz.heap.size, wz.alloc (.cells (cellsE (List.replicate n (0, 0))).toArray 99), by have q9 := HMK.out wz; go_simp; try (with_reducible rfl), hS.mkA⟩)) (fun g : Nat => Value.slice (some ⟨g, 0, none⟩) n n) (fun g2 => (MkT wo) none (some g2)) (fun g2 => (MkK wo (List.replicate n (0,0))) none (some g2)) (Turns.val rfl (fun _ _ h => h) (fun _ => (MkK.weak _ _)) (fun _ => MkK.clo) (fun wz hS => ⟨wz.heap.size, wz.alloc (.cells (cellsE (List.replicate n (0, 0))).toArray 99), by have q9 := HMK.out wz; go_simp; try (with_reducible rfl), hS.mkB⟩)) (fun g1 => ?rz5_16a) (fun g2 => ?rz5_16b)
    case' rz5_16a =>
     simp only [Zp, Zq, Zr, Zs]
     refine WpX.vD 8 (some 13) ?_ rfl rfl (by kernel_rfl) (fun _ _ _ h => h) rfl (fun wz hwz => ?_) ?_
     rotate_left
     ·go_simp; try (with_reducible rfl)
     simp only [Zp, Zq, Zr, Zs]
     refine WpX.oneD 7 (some 32) rfl rfl (by kernel_rfl) (fun g : Nat => Value.slice (some ⟨g, 0, none⟩) n n) (fun g2 => (MkT wo) (some g1) (some g2)) (fun g2 => (MkK wo (List.replicate n (0,0))) (some g1) (some g2)) (Turns.val rfl (fun _ _ h => h) (fun _ => (MkK.weak _ _)) (fun _ => MkK.clo) (fun wz hS => ⟨wz.heap.size, wz.alloc (.cells (cellsE (List.replicate n (0, 0))).toArray 99), by have q9 := HMK.out wz; go_simp; try (with_reducible rfl), hS.mkB⟩)) (fun g2 => ?_)
     simp only [Zp, Zq, Zr, Zs]
     refine WpX.done (by kernel_rfl) (fun w5 hS => ⟨g1, g2, rfl, ?_⟩)
     ·exact hS
    case' rz5_16b =>
     simp only [Zp, Zq, Zr, Zs]
     refine WpX.oneD 3 (some 28) rfl rfl (by kernel_rfl) (fun g : Nat => Value.slice (some ⟨g, 0, none⟩) n n) (fun g1 => (MkT wo) (some g1) (some g2)) (fun g1 => (MkK wo (List.replicate n (0,0))) (some g1) (some g2)) (Turns.val rfl (fun _ _ h => h) (fun _ => (MkK.weak _ _)) (fun _ => MkK.clo) (fun wz hS => ⟨wz.heap.size, wz.alloc (.cells (cellsE (List.replicate n (0, 0))).toArray 99), by have q9 := HMK.out wz; go_simp; try (with_reducible rfl), hS.mkA⟩)) (fun g1 => ?_)
     simp only [Zp, Zq, Zr, Zs]
     refine WpX.vD 8 (some 13) ?_ rfl rfl (by kernel_rfl) (fun _ _ _ h => h) rfl (fun wz hwz => ?_) ?_
     rotate_left
     ·go_simp; try (with_reducible rfl)
     simp only [Zp, Zq, Zr, Zs]
     refine WpX.done (by kernel_rfl) (fun w5 hS => ⟨g1, g2, rfl, ?_⟩)
     ·exact hS
   intro g1 g2 w5 hS
   (try simp only [List.drop_succ_cons]); (try simp only [List.drop_zero]); (try simp only [Nat.reduceSub]); (try simp only [List.take_succ_cons]); (try simp only [List.take_zero])
   obtain ⟨hg1, hO1⟩ := hS.a g1 rfl
   obtain ⟨hg2, hO2⟩ := hS.b g2 rfl
   have hgne := hS.e g1 g2 rfl rfl
   have hb5 := hS.t
   rw [← HZ.out] at hO1 hO2
   have hR1 : RwK w5 g1 ((List.replicate n e1).take 0 ++ (zK f n).drop 0) := hO1.rw
   have hR2 : RwK w5 g2 ((List.replicate n e2).take 0 ++ (zK f n).drop 0) := hO2.rw
   clear hS hO1 hO2 HMK
   go_upto_region 6 with fail
   go_wp2_with fail
   go_loopw [35] (fun v35 wq => ∃ j : Nat, j ≤ n ∧ v35 = .int .i64 j ∧ RwK wq g1 ((List.replicate n e1).take j ++ (zK f n).drop j) ∧ RwK wq g2 ((List.replicate n e2).take j ++ (zK f n).drop j) ∧ Below wo.heap.size wo wq) (fun v35 _ => n - (intOf v35).toNat)
   case atStart => exact ⟨0, Nat.zero_le _, rfl, hR1, hR2, hb5⟩
   case round =>
    clear hR1 hR2 hb5
    obtain ⟨j, hjn, rfl, hR1, hR2, hbq⟩ := hrel
    obtain ⟨wq, hwq⟩ : ∃ z : World, z = wr := ⟨wr, rfl⟩
    subst hwq
    by_cases hjl : j < n
    ·have hj1 : (j : Int) < (n : Int) := by omega
     have HJ : Hid (j < n) := hjl
     have HB1 : Hid (j < ((List.replicate n e1).take j ++ (zK f n).drop j).length) := by
      show _ < _
      rw [part_length (HL9.out e1), zK_length]
      exact hjl
     have HB2 : Hid (j < ((List.replicate n e2).take j ++ (zK f n).drop j).length) := by
      show _ < _
      rw [part_length (HL9.out e2), zK_length]
      exact hjl
     have HA1 : Hid ((List.replicate n e1)[j]? = some e1 ∧ (List.replicate n e2)[j]? = some e2) := Lib.hid (by
      constructor <;> rw [List.getElem?_replicate, if_pos hjl])
     obtain ⟨o0, o1⟩ := hR1.at (i := j) (x := 0) (by rw [part_at (HL9.out e1) (by rw [zK_length]; exact hjl)]; exact zK_at hjl)
     obtain ⟨o2, o3⟩ := hR1.frz HB1.out
     have hol := Vs.lt hR1
     have hR1n := hR1.set j HB1.out e1
     rw [part_set (HL9.out e1) HA1.out.1, HL1.out.1, HL1.out.2] at hR1n
     have hR2n := (hR2.far (p := ⟨g1, j * 2, none⟩) hgne (.int .u64 ((a : Int) + 1))).far (p := ⟨g1, j * 2 + 1, none⟩) hgne (.int .u64 0)
     have hbn := bl_set (p := ⟨g1, j * 2 + 1, none⟩) (bl_set (p := ⟨g1, j * 2, none⟩) hbq hg1 (.int .u64 ((a : Int) + 1))) hg1 (.int .u64 0)
     clear hR1 hR2 hbq
     go_upto_region 10 with fail
     clear o0 o1 o2 o3 hol
     generalize (wq.setCell ⟨g1, j * 2, none⟩ (.int .u64 ((a : Int) + 1))).setCell ⟨g1, j * 2 + 1, none⟩ (.int .u64 0) = w7 at hR1n hR2n hbn ⊢
     obtain ⟨⟨z0, z1, z2, z3, z4, z5, z6, z7⟩, ⟨y0, y1, y2, y3, y4, y5, y6, y7⟩, y8⟩ := (HTI.out.call hbn).t.get8
     refine wp_region_lit ?_
     refine wpList_valD (some 45) rfl rfl (by (go_simp; first | with_reducible rfl | exact ⟨rfl, rfl⟩ | (trace_state; fail))) ?_
     simp only [Zp, Zq, Zr, Zs]
     refine wpList_valD (some 46) rfl rfl (by (go_simp; first | with_reducible rfl | exact ⟨rfl, rfl⟩ | (trace_state; fail))) ?_
     simp only [Zp, Zq, Zr, Zs]
     refine wpList_valD (some 47) rfl rfl (by (go_simp; first | with_reducible rfl | exact ⟨rfl, rfl⟩ | (trace_state; fail))) ?_
     simp only [Zp, Zq, Zr, Zs]
     refine wpList_valD (some 48) rfl rfl (by (go_simp; first | with_reducible rfl | exact ⟨rfl, rfl⟩ | (trace_state; fail))) ?_
     simp only [Zp, Zq, Zr, Zs]
     refine wpList_valD (some 49) rfl rfl (by (go_simp; first | with_reducible rfl | exact ⟨rfl, rfl⟩ | (trace_state; fail))) ?_
     simp only [Zp, Zq, Zr, Zs]
     refine wpList_valD (some 50) rfl rfl (by (go_simp; first | with_reducible rfl | exact ⟨rfl, rfl⟩ | (trace_state; fail))) ?_
     simp only [Zp, Zq, Zr, Zs]
     refine wpList_valD (some 51) rfl rfl (by (go_simp; first | with_reducible rfl | exact ⟨rfl, rfl⟩ | (trace_state; fail))) ?_
     simp only [Zp, Zq, Zr, Zs]
     refine wpList_valD (some 52) rfl rfl (by (go_simp; first | with_reducible rfl | exact ⟨rfl, rfl⟩ | (trace_state; fail))) ?_
     simp only [Zp, Zq, Zr, Zs]
     refine wpList_valD (some 53) rfl rfl (by (go_simp; first | with_reducible rfl | exact ⟨rfl, rfl⟩ | (trace_state; fail))) ?_
     simp only [Zp, Zq, Zr, Zs]
     refine wpList_valD (some 54) rfl rfl (by (go_simp; first | with_reducible rfl | exact ⟨rfl, rfl⟩ | (trace_state; fail))) ?_
     simp only [Zp, Zq, Zr, Zs]
     refine wpList_valD (some 55) rfl rfl (by (go_simp; first | with_reducible rfl | exact ⟨rfl, rfl⟩ | (trace_state; fail))) ?_
     simp only [Zp, Zq, Zr, Zs]
     refine wpList_valD (some 56) rfl rfl (by (go_simp; first | with_reducible rfl | exact ⟨rfl, rfl⟩ | (trace_state; fail))) ?_
     simp only [Zp, Zq, Zr, Zs]
     refine wpList_valD (some 57) rfl rfl (by (go_simp; first | with_reducible rfl | exact ⟨rfl, rfl⟩ | (trace_state; fail))) ?_
     simp only [Zp, Zq, Zr, Zs]
     refine wpList_callD (some 58) rfl rfl 85 _ ?_ (HNG.out _) ?_
     ·go_simp; try (with_reducible rfl)
     rintro e w8 ⟨rfl, hb8⟩
     refine ⟨_, rfl, ?_⟩
     simp only [Zp, Zq, Zr, Zs]
     clear z0 z1 z2 z3 z4 z5 z6 z7 y0 y1 y2 y3 y4 y5 y6 y7 y8
     have hR18 := hR1n.call hb8
     have hR28 := hR2n.call hb8
     have hbo8 := bl_call hbn (Nat.le_refl _) hb8
     obtain ⟨o0, o1⟩ := hR28.at (i := j) (x := 0) (by rw [part_at (HL9.out e2) (by rw [zK_length]; exact HJ.out)]; exact zK_at HJ.out)
     obtain ⟨o2, o3⟩ := hR28.frz HB2.out
     have hol := Vs.lt hR28
     refine wpList_valD (some 59) rfl rfl (by (go_simp; first | with_reducible rfl | exact ⟨rfl, rfl⟩ | (trace_state; fail))) ?_
     simp only [Zp, Zq, Zr, Zs]
     refine wpList_skipD rfl rfl (by (skip; go_simp; first | with_reducible rfl | exact ⟨rfl, rfl⟩ | (trace_state; fail))) ?_
     clear o0 o1 o2 o3 hol
     have hR2m := hR28.set j HB2.out e2
     rw [part_set (HL9.out e2) HA1.out.2] at hR2m
     have hR1m := (hR18.far (p := ⟨g2, j * 2, none⟩) (fun e => hgne e.symm) (.int .u64 (lo e2))).far (p := ⟨g2, j * 2 + 1, none⟩) (fun e => hgne e.symm) (.int .u64 (Go.Proofs.Ytbakkmfjamcbfaa.hi e2))
     have hbm := bl_set (p := ⟨g2, j * 2 + 1, none⟩) (bl_set (p := ⟨g2, j * 2, none⟩) hbo8 hg2 (.int .u64 (lo e2))) hg2 (.int .u64 (Go.Proofs.Ytbakkmfjamcbfaa.hi e2))
     clear hR18 hR28 hbo8 hR1n hR2n hbn hb8
     have hwj : IntKind.i64.wrap ((j : Int) + 1) = (j : Int) + 1 := IntWalk.i64_in _ (by omega)
     go_upto_region 11 with fail
     go_wp2_with fail
     go_roundw
     case rel => exact ⟨j + 1, by omega, by go_num, hR1m, hR2m, hbm⟩
     case measure => simp [intOf]; omega
    ·obtain rfl : n = j := by omega
     have hzn : (zK f n).length = n := zK_length f n
     rw [part_end (HL9.out e1) hzn.symm] at hR1
     rw [part_end (HL9.out e2) hzn.symm] at hR2
     have HI := Lib.hid (HTI.out.call hbq)
     clear hzn
     have HR1 := Lib.hid hR1
     have HR2 := Lib.hid hR2
     have hge : w.heap.size ≤ wq.heap.size := HI.out.b.size
     have hxl : xa < g2 ∧ xb < g2 := ⟨Nat.lt_of_lt_of_le HTI.out.x.lt hg2, Nat.lt_of_lt_of_le HTI.out.y.lt hg2⟩
     have HL : Hid (∀ e : Fin (Pm f), (List.replicate n e).length = n) := Lib.hid fun e => List.length_replicate
     clear hR1 hR2 hbq HTI
     go_upto_region 12 with fail
     obtain ⟨⟨z0, z1, z2, z3, z4, z5, z6, z7⟩, ⟨y0, y1, y2, y3, y4, y5, y6, y7⟩, y8⟩ := HI.out.t.get8
     refine wp_region_lit ?_
     refine wpList_valD (some 62) rfl rfl (exec_load rfl (by kernel_rfl) (HI.out.x.loadT (chkI_length i))) ?_
     simp only [Zp, Zq, Zr, Zs]
     refine wpList_valD (some 63) rfl rfl (by (go_simp; first | with_reducible rfl | exact ⟨rfl, rfl⟩ | (trace_state; fail))) ?_
     simp only [Zp, Zq, Zr, Zs]
     refine wpList_valD (some 64) rfl rfl (by (go_simp; first | with_reducible rfl | exact ⟨rfl, rfl⟩ | (trace_state; fail))) ?_
     simp only [Zp, Zq, Zr, Zs]
     refine wpList_valD (some 65) rfl rfl (exec_build rfl (by kernel_rfl) (build_idI i _)) ?_
     simp only [Zp, Zq, Zr, Zs]
     refine wpList_valD (some 66) rfl rfl (by (go_simp; first | with_reducible rfl | exact ⟨rfl, rfl⟩ | (trace_state; fail))) ?_
     simp only [Zp, Zq, Zr, Zs]
     refine wpList_callD (some 67) rfl rfl 37 _ ?_ (HADD.out i (chkI i) (idI i) _ _ _ _ _ (by omega) (chkI_length i) (idI_length i) (idI_b8 (by omega)) (HI.out.a.slNn (HL.out _) (by omega)) (HR1.out.sl (HL.out _) (Nat.le_refl _) (by omega)) (HL.out _) (HL.out _)) ?_
     ·go_simp; try (with_reducible rfl)
     rintro e w8 ⟨g3, rfl, hB3, hg3, hb8⟩
     refine ⟨_, rfl, ?_⟩
     simp only [Zp, Zq, Zr, Zs]
     clear z0 z1 z2 z3 z4 z5 z6 z7 y0 y1 y2 y3 y4 y5 y6 y7 y8
     have HI8 := Lib.hid (HI.out.call hb8)
     have hst := HI8.out.x.storeT (k := chkI (i + 1)) (v := .slice (some ⟨g3, 0, none⟩) n n) (m := ((i + 1 : Nat) : Int)) (chkI_length i) (chkI_length (i + 1)) rfl
     refine wpList_valD (some 61) rfl rfl (by (go_simp; first | with_reducible rfl | exact ⟨rfl, rfl⟩ | (trace_state; fail))) ?_
     simp only [Zp, Zq, Zr, Zs]
     refine wpList_valD (some 68) rfl rfl (by (go_simp; first | with_reducible rfl | exact ⟨rfl, rfl⟩ | (trace_state; fail))) ?_
     simp only [Zp, Zq, Zr, Zs]
     refine wpList_valD (some 69) rfl rfl (by (go_simp; first | with_reducible rfl | exact ⟨rfl, rfl⟩ | (trace_state; fail))) ?_
     simp only [Zp, Zq, Zr, Zs]
     refine wpList_skipD rfl rfl (exec_store rfl (by kernel_rfl) (by kernel_rfl) hst) ?_
     have hge8 : w.heap.size ≤ g3 := Nat.le_trans hge hg3
     have HI9 := Lib.hid (HI8.out.setX hB3 hge8 ((i + 1 : Nat) : Int) (K2 := chkI (i + 1)) (chkI_length i) (chkI_length (i + 1)))
     have HR2b := Lib.hid (Vs.farW (b' := xa) (HR2.out.call hb8) (by omega) 0 (totL (.slice (some ⟨g3, 0, none⟩) n n) ((i + 1 : Nat) : Int) (chkI (i + 1))))
     have HX1 : Hid (addL (List.replicate n (sumI e1 i)) (List.replicate n e1) = List.replicate n (sumI e1 (i + 1)) ∧ addL (List.replicate n (sumI e2 i)) (List.replicate n e2) = List.replicate n (sumI e2 (i + 1))) := Lib.hid ⟨addL_rep _ _ _, addL_rep _ _ _⟩
     rw [HX1.out.1] at HI9
     have hge2 : w.heap.size ≤ w8.heap.size := Nat.le_trans hge hb8.size
     have hsz9 : w8.heap.size ≤ (w8.setCells xa 0 (totL (.slice (some ⟨g3, 0, none⟩) n n) ((i + 1 : Nat) : Int) (chkI (i + 1)))).heap.size := by rw [size_setCells]; exact Nat.le_refl _
     clear hst hb8 hB3 hg3 HI8 HI HR1 HR2 hge
     generalize w8.setCells xa 0 (totL (.slice (some ⟨g3, 0, none⟩) n n) ((i + 1 : Nat) : Int) (chkI (i + 1))) = w9 at HI9 HR2b hsz9 ⊢
     have hge9 : w.heap.size ≤ w9.heap.size := by omega
     go_upto_region 13 with fail
     obtain ⟨⟨z0, z1, z2, z3, z4, z5, z6, z7⟩, ⟨y0, y1, y2, y3, y4, y5, y6, y7⟩, y8⟩ := HI9.out.t.get8
     have hsl2 : RwK w9 g2 (List.replicate n e2) := HR2b.out
     refine wp_region_lit ?_
     refine wpList_valD (some 71) rfl rfl (exec_load rfl (by kernel_rfl) (HI9.out.y.loadT (chkI_length i))) ?_
     simp only [Zp, Zq, Zr, Zs]
     refine wpList_valD (some 72) rfl rfl (by (go_simp; first | with_reducible rfl | exact ⟨rfl, rfl⟩ | (trace_state; fail))) ?_
     simp only [Zp, Zq, Zr, Zs]
     refine wpList_valD (some 73) rfl rfl (by (go_simp; first | with_reducible rfl | exact ⟨rfl, rfl⟩ | (trace_state; fail))) ?_
     simp only [Zp, Zq, Zr, Zs]
     refine wpList_valD (some 74) rfl rfl (exec_build rfl (by kernel_rfl) (build_idI i _)) ?_
     simp only [Zp, Zq, Zr, Zs]
     refine wpList_valD (some 75) rfl rfl (by (go_simp; first | with_reducible rfl | exact ⟨rfl, rfl⟩ | (trace_state; fail))) ?_
     simp only [Zp, Zq, Zr, Zs]
     refine wpList_callD (some 76) rfl rfl 37 _ ?_ (HADD.out i (chkI i) (idI i) _ _ _ _ _ (by omega) (chkI_length i) (idI_length i) (idI_b8 (by omega)) (HI9.out.c.slNn (HL.out _) (by omega)) (hsl2.sl (HL.out _) (Nat.le_refl _) (by omega)) (HL.out _) (HL.out _)) ?_
     ·go_simp; try (with_reducible rfl)
     rintro e w10 ⟨g4, rfl, hB4, hg4, hb10⟩
     refine ⟨_, rfl, ?_⟩
     simp only [Zp, Zq, Zr, Zs]
     clear z0 z1 z2 z3 z4 z5 z6 z7 y0 y1 y2 y3 y4 y5 y6 y7 y8
     have HI10 := Lib.hid (HI9.out.call hb10)
     have hst := HI10.out.y.storeT (k := chkI (i + 1)) (v := .slice (some ⟨g4, 0, none⟩) n n) (m := ((i + 1 : Nat) : Int)) (chkI_length i) (chkI_length (i + 1)) rfl
     refine wpList_valD (some 70) rfl rfl (by (go_simp; first | with_reducible rfl | exact ⟨rfl, rfl⟩ | (trace_state; fail))) ?_
     simp only [Zp, Zq, Zr, Zs]
     refine wpList_valD (some 77) rfl rfl (by (go_simp; first | with_reducible rfl | exact ⟨rfl, rfl⟩ | (trace_state; fail))) ?_
     simp only [Zp, Zq, Zr, Zs]
     refine wpList_valD (some 78) rfl rfl (by (go_simp; first | with_reducible rfl | exact ⟨rfl, rfl⟩ | (trace_state; fail))) ?_
     simp only [Zp, Zq, Zr, Zs]
     refine wpList_skipD rfl rfl (exec_store rfl (by kernel_rfl) (by kernel_rfl) hst) ?_
     have hge10 : w.heap.size ≤ g4 := Nat.le_trans hge9 hg4
     have HI11 := Lib.hid (HI10.out.setY hB4 hge10 ((i + 1 : Nat) : Int) (K2 := chkI (i + 1)) (chkI_length i) (chkI_length (i + 1)))
     rw [HX1.out.2] at HI11
     clear hst hb10 hB4 hg4 HI10 HI9 HR2b hsl2
     generalize w10.setCells xb 0 (totL (.slice (some ⟨g4, 0, none⟩) n n) ((i + 1 : Nat) : Int) (chkI (i + 1))) = w11 at HI11 ⊢
     have hwi : IntKind.u8.wrap ((i : Int) + 1) = (i : Int) + 1 := IntWalk.u8_in _ (by omega)
     go_upto_region 14 with fail
     go_wp2_with fail
     go_roundw
     case rel => exact ⟨i + 1, g3, g4, by omega, by go_num, HI11.out⟩
     case measure => simp [intOf]; omega
  ·obtain rfl : q = i := by omega
   clear hI
   go_upto_region 15 with fail
   have HI := Lib.hid HTI.out
   obtain ⟨rb, hrb⟩ : ∃ z, w.heap.size + 1 = z := ⟨_, rfl⟩
   have hr8 := HI.out.r8
   have hr9 := HI.out.r9
   have ho := HI.out.o
   rw [hrb] at hr8 hr9 ho
   have nx : ¬ xa = rb := by omega
   have ny : ¬ xb = rb := by omega
   have HC := Lib.hid (chkI_length q)
   have HX := Lib.hid HI.out.x
   have HY := Lib.hid HI.out.y
   simp only [hrb]
   refine region_X (fun wz => Exc (fun q => q = rb) wo.heap.size wo wz) (fun wz => Exc (fun q => q = rb) wo.heap.size wo wz ∧ Vs wz rb (totL (.slice none 0 0) 0 z16)) (fun _ h => h.1) (fun _ _ h hb => ⟨h.1.call hb, h.2.call hb⟩) ⟨exc_of ((Below.refl _ _).drew), hr8.call ((Below.refl _ _).drew)⟩ (n := 3) (m := 4) (f := 3) (by kernel_rfl) (by kernel_rfl) rfl ?_
   refine WpX.vD 0 (some 80) ?_ rfl rfl (by kernel_rfl) (fun _ _ _ h => h) rfl (fun wz hwz => ?_) ?_
   rotate_left
   ·(refine Eq.trans (exec_load rfl (by kernel_rfl) ((HX.out.exc (S := fun q => q = rb) nx hwz).loadT HC.out)) ?_; with_reducible rfl)
   simp only [Zp, Zq, Zr, Zs]
   refine WpX.vD 1 (some 81) ?_ rfl rfl (by kernel_rfl) (fun _ _ _ h => h) rfl (fun wz hwz => ?_) ?_
   rotate_left
   ·(refine Eq.trans (exec_load rfl (by kernel_rfl) ((HY.out.exc (S := fun q => q = rb) ny hwz).loadT HC.out)) ?_; with_reducible rfl)
   simp only [Zp, Zq, Zr, Zs]
   refine WpX.oneSkip 2 none rfl rfl (by kernel_rfl) ((fun wz => Exc (fun q => q = rb) wo.heap.size wo wz)) ((fun wz => Exc (fun q => q = rb) wo.heap.size wo wz ∧ Vs wz rb (totL (.slice (some ⟨ga, 0, none⟩) n n) (q : Int) (chkI q)))) ((fun _ h => h)) ((fun _ h => h.1)) ((fun _ _ h hb => ⟨h.1.call hb, h.2.call hb⟩)) rfl (fun wz hS => ?_) ?_
   ·((exact ⟨_, exec_store rfl (by kernel_rfl) (by kernel_rfl) (hS.2.storeT z16_length HC.out rfl), exc_setCells (S := fun q => q = rb) rb rfl _ _ _ hS.1, hS.2.setT z16_length HC.out⟩))
   simp only [Act.put]
   refine WpX.done (by kernel_rfl) (fun w5 hS => ?_)
   (try simp only [List.drop_succ_cons]); (try simp only [List.drop_zero]); (try simp only [Nat.reduceSub]); (try simp only [List.take_succ_cons]); (try simp only [List.take_zero])
   obtain ⟨hx5, hR8⟩ := hS
   have hr95 := hr9.exc (S := fun q => q = rb) (by omega) hx5
   have hst := hr95.storeT (k := chkI q) (v := .slice (some ⟨gb, 0, none⟩) n n) (m := (q : Int)) z16_length HC.out rfl
   have hR9 := hr95.setT (k := chkI q) (v := .slice (some ⟨gb, 0, none⟩) n n) (m := (q : Int)) z16_length HC.out
   have hR8b := hR8.farW (b' := rb + 1) (by omega) 0 (totL (.slice (some ⟨gb, 0, none⟩) n n) (q : Int) (chkI q))
   have n1 := blk_vs (k := z16) (A := none) (n := 0) (c := 0) (m := 0) HI.out.a hr8
   have n2 := blk_vs (k := z16) (A := none) (n := 0) (c := 0) (m := 0) HI.out.c hr8
   have n3 := blk_vs (k := z16) (A := none) (n := 0) (c := 0) (m := 0) HI.out.a hr9
   have n4 := blk_vs (k := z16) (A := none) (n := 0) (c := 0) (m := 0) HI.out.c hr9
   have hA := (HI.out.a.exc (S := fun q => q = rb) n1 hx5).farC (b := rb + 1) n3.symm 0 (totL (.slice (some ⟨gb, 0, none⟩) n n) (q : Int) (chkI q))
   have hB := (HI.out.c.exc (S := fun q => q = rb) n2 hx5).farC (b := rb + 1) n4.symm 0 (totL (.slice (some ⟨gb, 0, none⟩) n n) (q : Int) (chkI q))
   have hbw : Below w.heap.size w w5 := HI.out.b.trans (exc_own (hx5.mono HI.out.b.size) (by omega))
   have hbz := bl_setCells hbw (b := rb + 1) (by omega) 0 (totL (.slice (some ⟨gb, 0, none⟩) n n) (q : Int) (chkI q))
   refine wpList_skipD rfl rfl (exec_store rfl (by kernel_rfl) (by kernel_rfl) hst) ?_
   have HFIN := Lib.hid (And.intro hA (And.intro hB hbz))
   clear hst hx5 hR8 hr95 hr8 hr9 hA hB hbw hbz n1 n2 n3 n4 HX HY HI HTI
   generalize w5.setCells (rb + 1) 0 (totL (.slice (some ⟨gb, 0, none⟩) n n) (q : Int) (chkI q)) = w6 at hR9 hR8b HFIN ⊢
   go_upto_region 99 with fail
   exact bodyPost_ret (results_tot2 (b := rb) (b' := rb + 1) hR8b HC.out hR9 HC.out rfl rfl rfl) rfl ⟨(ga, gb), rfl, HFIN.out.1, HFIN.out.2.1, ho.2.2.2.1, ho.2.2.2.2, HFIN.out.2.2⟩

end Go.Proofs.Ytbakkmfjamcbfaa

namespace Go.Proofs.Ytbakkmfjamcbfaa
open Go.RowKit Fm
set_option linter.unusedVariables false
set_option maxRecDepth 100000

def RetDecN (y : CK) (l : List E) (k : Int) (w : World) (e : Ending) (w' : World) : Prop :=
 (decN y l k ≠ 0 ∧ RetNil (decN y l k) w e w') ∨ (decN y l k = 0 ∧ ∃ v, e = .returned (.tuple #[v, .int .i64 0]) ∧ (SlU w' w'.heap.size v (l.map (·.1)) ∧ w'.ownsRow w.heap.size 22 1 v (l.map (·.1)).length (cellsU (l.map (·.1)))) ∧ Below w.heap.size w w')

set_option maxHeartbeats 4000000 in
theorem circuit_DecodeN {f : Nat} (hf : IsF f) (y : CK) (hy : y.ok) (hcalls : ¬ 511 < y.calls) (vs : Value) (l : List E) (k : Int) (w : World) (hl : SlE w w.heap.size vs l) (hl70 : l.length ≤ 70) :
  Calls Try.prog 70 #[y.val f, vs, .int .i64 k] w (RetDecN y l k w) := by
 have HC : Hid (∀ wz, Calls Try.prog 60 #[y.val f] wz (RetC 0 wz)) := by
  intro wz
  have h := circuit_Check_ok hf y hy wz
  rwa [CK.code_ok hcalls] at h
 have HO := Lib.hid (fun wz => circuit_Out f y hy wz)
 have HM := Lib.hid (fun wz => circuit_Most f y hy wz)
 have hmo := CK.most_le hy
 obtain ⟨⟨A, c, rfl, hlc, hcm, hA⟩, hok⟩ := hl
 obtain ⟨nout, hno⟩ : ∃ n, y.nout = n := ⟨_, rfl⟩
 obtain ⟨mo, hmos⟩ : ∃ n, y.most = n := ⟨_, rfl⟩
 rw [hno] at HO
 rw [hmos] at HM hmo
 have HNO := Lib.hid hno
 have HMO := Lib.hid hmos
 unfold CK.val at HC HO HM ⊢
 have hfb0 : (1 : Int) ≤ (f : Int) := by rcases hf.or with rfl | rfl <;> omega
 have hfb1 : (f : Int) ≤ 2 := by rcases hf.or with rfl | rfl <;> omega
 obtain ⟨K, hK⟩ : ∃ K : Int, ((y.k : Nat) : Int) = K := ⟨_, rfl⟩
 obtain ⟨B, hB⟩ : ∃ K : Int, ((y.b : Nat) : Int) = K := ⟨_, rfl⟩
 obtain ⟨N, hN⟩ : ∃ K : Int, ((y.l : Nat) : Int) = K := ⟨_, rfl⟩
 obtain ⟨M, hM⟩ : ∃ K : Int, ((y.m : Nat) : Int) = K := ⟨_, rfl⟩
 obtain ⟨C, hC⟩ : ∃ K : Int, ((y.c : Nat) : Int) = K := ⟨_, rfl⟩
 rw [hK, hB, hN, hM, hC] at HC HO HM ⊢
 clear hK hB hN hM hC hno hmos hcalls hy
 have hb00 : Below w.heap.size w w := Below.refl _ _
 go_enter Try.func70, Try.ntmps70
 go_upto_region 1 with fail
 have hx := Vs.new w [.int .u8 K, .int .u8 f, .int .i64 B, .int .i64 N, .int .i64 M, .int .i64 C] #[.int .u8 K, .int .u8 f, .int .i64 B, .int .i64 N, .int .i64 M, .int .i64 C] 60 rfl
 have hbA : Below w.heap.size w (w.alloc (.cells #[.int .u8 K, .int .u8 f, .int .i64 B, .int .i64 N, .int .i64 M, .int .i64 C] 60)) := by repeat (first | exact bA | with_reducible assumption | apply bB)
 replace hb00 := bl_call hb00 (Nat.le_refl _) hbA
 clear hbA
 generalize w.alloc (.cells #[.int .u8 K, .int .u8 f, .int .i64 B, .int .i64 N, .int .i64 M, .int .i64 C] 60) = w1 at hb00 hx ⊢
 obtain ⟨⟨x0, x1, x2, x3, x4, x5⟩, ⟨x6, x7, x8, x9, x10, x11⟩, x12⟩ := hx.get6
 have hxl : w.heap.size < w1.heap.size := hx.lt
 by_cases hn : l.length = nout
 rotate_left
 ·have HD : Hid (decN y l k = 9) := by
   show decN y l k = 9
   unfold decN
   rw [HNO.out, if_neg hn]
  go_wp2_with (first
   | (go_at_call 60; refine (HC.out _).mono ?_; rintro e w2 ⟨rfl, hb2⟩; replace hb00 := bl_call hb00 (Nat.le_refl _) hb2; replace hx := hx.call hb2; obtain ⟨⟨x0, x1, x2, x3, x4, x5⟩, ⟨x6, x7, x8, x9, x10, x11⟩, x12⟩ := hx.get6)
   | (go_at_call 32; refine (HO.out _).mono ?_; rintro e w3 ⟨rfl, hb3⟩; replace hb00 := bl_call hb00 (Nat.le_refl _) hb3; replace hx := hx.call hb3; obtain ⟨⟨x0, x1, x2, x3, x4, x5⟩, ⟨x6, x7, x8, x9, x10, x11⟩, x12⟩ := hx.get6))
  go_ret2
  exact .inl ⟨by rw [HD.out]; omega, by rw [HD.out]; exact ⟨rfl, hb00⟩⟩
 have HN := Lib.hid hn
 rw [← hn] at HO
 clear hn
 by_cases hk : k < 0 ∨ 256 < k
 ·have HD : Hid (decN y l k = 6) := by
   show decN y l k = 6
   unfold decN
   rw [HNO.out, if_pos HN.out, if_pos hk]
  rcases hk with hk | hk
  all_goals
   go_wp2_with (first
    | (go_at_call 60; refine (HC.out _).mono ?_; rintro e w2 ⟨rfl, hb2⟩; replace hb00 := bl_call hb00 (Nat.le_refl _) hb2; replace hx := hx.call hb2; obtain ⟨⟨x0, x1, x2, x3, x4, x5⟩, ⟨x6, x7, x8, x9, x10, x11⟩, x12⟩ := hx.get6)
    | (go_at_call 32; refine (HO.out _).mono ?_; rintro e w3 ⟨rfl, hb3⟩; replace hb00 := bl_call hb00 (Nat.le_refl _) hb3; replace hx := hx.call hb3; obtain ⟨⟨x0, x1, x2, x3, x4, x5⟩, ⟨x6, x7, x8, x9, x10, x11⟩, x12⟩ := hx.get6))
   go_ret2
   exact .inl ⟨by rw [HD.out]; omega, by rw [HD.out]; exact ⟨rfl, hb00⟩⟩
 have HD : Hid (decN y l k = if l.any (decBad mo k) then 6 else 0) := by
  show decN y l k = _
  unfold decN
  rw [HNO.out, HMO.out, if_pos HN.out, if_neg hk]
 obtain ⟨kn, rfl⟩ : ∃ kn : Nat, k = (kn : Int) := ⟨k.toNat, by omega⟩
 have hk2 : kn ≤ 256 := by omega
 clear hk
 go_upto_region 10 with (first
  | (go_at_call 60; refine (HC.out _).mono ?_; rintro e w2 ⟨rfl, hb2⟩; replace hb00 := bl_call hb00 (Nat.le_refl _) hb2; replace hx := hx.call hb2; obtain ⟨⟨x0, x1, x2, x3, x4, x5⟩, ⟨x6, x7, x8, x9, x10, x11⟩, x12⟩ := hx.get6)
  | (go_at_call 32; refine (HO.out _).mono ?_; rintro e w3 ⟨rfl, hb3⟩; replace hb00 := bl_call hb00 (Nat.le_refl _) hb3; replace hx := hx.call hb3; obtain ⟨⟨x0, x1, x2, x3, x4, x5⟩, ⟨x6, x7, x8, x9, x10, x11⟩, x12⟩ := hx.get6))
 have hsz : w.heap.size + 1 ≤ w3.heap.size := hx.lt
 clear HC HO hb2 hb3
 clear x0 x1 x2 x3 x4 x5 x6 x7 x8 x9 x10 x11 x12
 have hkm : kn * mo ≤ 256 * 4294967296 := Nat.mul_le_mul hk2 hmo
 obtain ⟨KM, hKM⟩ : ∃ KM : Nat, kn * mo = KM := ⟨_, rfl⟩
 have hKMi : (kn : Int) * (mo : Int) = (KM : Int) := by rw [← hKM]; exact (Int.natCast_mul kn mo).symm
 rw [hKM] at hkm
 have hw1 : IntKind.u64.wrap (kn : Int) = (kn : Int) := IntWalk.u64_in _ (by omega)
 have hw2 : IntKind.u64.wrap (KM : Int) = (KM : Int) := IntWalk.u64_in _ (by omega)
 clear hKM
 go_wp2_with fail
 go_loopw [9, 30] (fun v9 i wr => ∃ (q : Nat) (A' : Option Addr) (cp : Nat), q ≤ l.length ∧ i = .int .i64 q ∧ v9 = .slice A' q cp ∧ Hid ((l.take q).any (decBad mo kn) = false) ∧
   Vs wr w.heap.size [.int .u8 K, .int .u8 f, .int .i64 B, .int .i64 N, .int .i64 M, .int .i64 C] ∧ wr.ownsRow (w.heap.size + 1) 22 1 (.slice A' q cp) q (cellsU ((l.take q).map (·.1))) ∧ Below w.heap.size w wr ∧ w.heap.size + 1 ≤ wr.heap.size) (fun _ i _ => l.length - (intOf i).toNat)
 case atStart => exact ⟨0, none, 0, Nat.zero_le _, rfl, rfl, (by rw [List.take_zero]; rfl : (l.take 0).any (decBad mo kn) = false), hx, World.ownsRow_nil _ _ _ _, hb00, hsz⟩
 case round =>
  clear hx hb00 hsz hxl
  obtain ⟨q, A', cp, hq, rfl, rfl, hany, hx, hown, hbw, hsz⟩ := hrel
  obtain ⟨⟨x0, x1, x2, x3, x4, x5⟩, ⟨x6, x7, x8, x9, x10, x11⟩, x12⟩ := hx.get6
  by_cases hlt : q < l.length
  ·obtain ⟨b, o, rfl, hBb, hr⟩ := hA (by omega)
   obtain ⟨⟨a0, a1⟩, he⟩ : ∃ e, l[q]? = some e := ⟨_, List.getElem?_eq_getElem hlt⟩
   obtain ⟨h0, h1, h2, h3⟩ := hok _ (List.mem_of_getElem? he)
   obtain ⟨d0, d1⟩ := (hr.below hbw hBb) _ _ he
   dsimp only at h0 h1 h2 h3 d0 d1
   have HE := Lib.hid he
   clear he hr hA
   go_upto_region 12 with fail
   clear x0 x1 x2 x3 x4 x5 x6 x7 x8 x9 x10 x11 x12
   replace hown := own_call hown ((Below.refl _ _).alloc (Nat.le_refl _) (.cells #[.int .u64 a0, .int .u64 a1] 99))
   have hsz4 : w.heap.size + 1 ≤ (wr.alloc (.cells #[.int .u64 a0, .int .u64 a1] 99)).heap.size := by rw [World.size_alloc]; omega
   have hv := V2.new wr (.int .u64 a0) (.int .u64 a1) 99
   have hbA : Below wr.heap.size wr (wr.alloc (.cells #[.int .u64 a0, .int .u64 a1] 99)) := (Below.refl _ _).alloc (Nat.le_refl _) _
   replace hbw := bl_call hbw (Nat.le_refl _) hbA
   replace hx := hx.call hbA
   clear hbA
   generalize wr.alloc (.cells #[.int .u64 a0, .int .u64 a1] 99) = w4 at hown hsz4 hv hx hbw ⊢
   obtain ⟨⟨x0, x1, x2, x3, x4, x5⟩, ⟨x6, x7, x8, x9, x10, x11⟩, x12⟩ := hx.get6
   obtain ⟨v0, v1, v2, v3, v4⟩ := V2.mk hv.c0 hv.c1 hv.f0 hv.f1 hv.lt
   have hpm := Pm_ge hf
   have hbz : wr.heap.size < w4.heap.size := hv.lt
   by_cases hin : a0 + 18446744073709551616 * a1 < ((Pm f : Nat) : Int)
   rotate_left
   ·have hbad : decBad mo kn (a0, a1) = true := by
     unfold decBad
     dsimp only
     rw [hKMi, Bool.or_eq_true, decide_eq_true_eq, bne_iff_ne]
     omega
    have HIN : Hid (∀ wz, Calls Try.prog 104 #[.int .u8 f, .agg #[.int .u64 a0, .int .u64 a1]] wz fun e w' => e = .returned (.bool false) ∧ Below wz.heap.size wz w') := by
     intro wz
     have h := field_In f _ a0 a1 wz (FM.ofN hf) h0 h1 h2 h3
     rwa [decide_eq_false hin] at h
    have HD6 : Hid (decN y l kn = 6) := by
     show decN y l kn = 6
     rw [HD.out, if_pos (List.any_eq_true.2 ⟨_, List.mem_of_getElem? HE.out, hbad⟩)]
    clear hbad hin
    refine region_B (n := 19) (m := 20) (f := 19) (by kernel_rfl) (by kernel_rfl) rfl ?_
    refine WpH.vD 0 (some 34) ?_ rfl rfl (by kernel_rfl) (fun _ _ _ h => h) rfl (fun wz hwz => ?_) ?_
    rotate_left
    ·go_simp; try (with_reducible rfl)
    simp only [Zp, Zq, Zr, Zs]
    refine WpH.vD 1 (some 35) ?_ rfl rfl (by kernel_rfl) (fun _ _ _ h => h) rfl (fun wz hwz => ?_) ?_
    rotate_left
    ·(obtain ⟨hcz, hfz⟩ := bcell hwz; go_simp; try (with_reducible rfl))
    simp only [Zp, Zq, Zr, Zs]
    refine WpH.vD 2 (some 36) ?_ rfl rfl (by kernel_rfl) (fun _ _ _ h => h) rfl (fun wz hwz => ?_) ?_
    rotate_left
    ·(obtain ⟨hcz, hfz⟩ := bcell hwz; go_simp; try (with_reducible rfl))
    simp only [Zp, Zq, Zr, Zs]
    refine WpH.takeD 3 (some 37) rfl rfl (by kernel_rfl) (fun _ _ _ h => h) (.call rfl (fun wz hwz => HIN.out wz) (fun wz hwz => ?_)) ?_
    ·go_simp; try (with_reducible rfl)
    simp only [Zp, Zq, Zr, Zs]
    refine WpH.vD 4 (some 38) ?_ rfl rfl (by kernel_rfl) (fun _ _ _ h => h) rfl (fun wz hwz => ?_) ?_
    rotate_left
    ·go_simp; try (with_reducible rfl)
    simp only [Zp, Zq, Zr, Zs]
    refine WpH.vD 5 (some 39) ?_ rfl rfl (by kernel_rfl) (fun _ _ _ h => h) rfl (fun wz hwz => ?_) ?_
    rotate_left
    ·go_simp; try (with_reducible rfl)
    simp only [Zp, Zq, Zr, Zs]
    refine WpH.takeD 6 (some 40) rfl rfl (by kernel_rfl) (fun _ _ _ h => h) (.skip rfl) ?_
    simp only [Zp, Zq, Zr, Zs]
    refine WpH.takeD 7 (some 41) rfl rfl (by kernel_rfl) (fun _ _ _ h => h) (.skip rfl) ?_
    simp only [Zp, Zq, Zr, Zs]
    refine WpH.takeD 8 (some 42) rfl rfl (by kernel_rfl) (fun _ _ _ h => h) (.skip rfl) ?_
    simp only [Zp, Zq, Zr, Zs]
    refine WpH.vD 9 (some 43) ?_ rfl rfl (by kernel_rfl) (fun _ _ _ h => h) rfl (fun wz hwz => ?_) ?_
    rotate_left
    ·go_simp; try (with_reducible rfl)
    simp only [Zp, Zq, Zr, Zs]
    refine WpH.vD 10 (some 44) ?_ rfl rfl (by kernel_rfl) (fun _ _ _ h => h) rfl (fun wz hwz => ?_) ?_
    rotate_left
    ·go_simp; try (with_reducible rfl)
    simp only [Zp, Zq, Zr, Zs]
    refine WpH.takeD 11 (some 45) rfl rfl (by kernel_rfl) (fun _ _ _ h => h) (.skip rfl) ?_
    simp only [Zp, Zq, Zr, Zs]
    refine WpH.takeD 12 (some 46) rfl rfl (by kernel_rfl) (fun _ _ _ h => h) (.skip rfl) ?_
    simp only [Zp, Zq, Zr, Zs]
    refine WpH.takeD 13 (some 47) rfl rfl (by kernel_rfl) (fun _ _ _ h => h) (.skip rfl) ?_
    simp only [Zp, Zq, Zr, Zs]
    refine WpH.takeD 14 (some 48) rfl rfl (by kernel_rfl) (fun _ _ _ h => h) (.skip rfl) ?_
    simp only [Zp, Zq, Zr, Zs]
    refine WpH.takeD 15 (some 49) rfl rfl (by kernel_rfl) (fun _ _ _ h => h) (.skip rfl) ?_
    simp only [Zp, Zq, Zr, Zs]
    refine WpH.takeD 16 (some 50) rfl rfl (by kernel_rfl) (fun _ _ _ h => h) (.skip rfl) ?_
    simp only [Zp, Zq, Zr, Zs]
    refine WpH.takeD 17 (some 51) rfl rfl (by kernel_rfl) (fun _ _ _ h => h) (.skip rfl) ?_
    simp only [Zp, Zq, Zr, Zs]
    refine WpH.takeD 18 (some 52) rfl rfl (by kernel_rfl) (fun _ _ _ h => h) (.skip rfl) ?_
    simp only [Zp, Zq, Zr, Zs]
    refine WpH.doneB (by kernel_rfl) (fun w6 hw6 => ?_)
    (try simp only [List.drop_succ_cons]); (try simp only [List.drop_zero]); (try simp only [Nat.reduceSub]); (try simp only [List.take_succ_cons]); (try simp only [List.take_zero])
    clear x0 x1 x2 x3 x4 x5 x6 x7 x8 x9 x10 x11 x12 v0 v1 v2 v3 v4
    replace hbw := bl_call hbw (Nat.le_refl _) hw6
    replace hx := hx.call hw6
    replace hv := hv.call hw6
    replace hown := own_call hown hw6
    go_wp2_with fail
    go_ret2
    exact .inl ⟨by rw [HD6.out]; omega, by rw [HD6.out]; exact ⟨rfl, hbw⟩⟩
   have HIN : Hid (∀ wz, Calls Try.prog 104 #[.int .u8 f, .agg #[.int .u64 a0, .int .u64 a1]] wz fun e w' => e = .returned (.bool true) ∧ Below wz.heap.size wz w') := by
    intro wz
    have h := field_In f _ a0 a1 wz (FM.ofN hf) h0 h1 h2 h3
    rwa [decide_eq_true hin] at h
   clear hin hpm
   by_cases hz : a1 = 0
   rotate_left
   ·have hbad : decBad mo kn (a0, a1) = true := by
     unfold decBad
     dsimp only
     rw [Bool.or_eq_true, bne_iff_ne]
     exact .inl hz
    have HD6 : Hid (decN y l kn = 6) := by
     show decN y l kn = 6
     rw [HD.out, if_pos (List.any_eq_true.2 ⟨_, List.mem_of_getElem? HE.out, hbad⟩)]
    have hz1 : (a1 == 0) = false := by simpa using hz
    have hz2 : (a1 != 0) = true := by simpa using hz
    clear hbad
    refine region_B (n := 19) (m := 20) (f := 19) (by kernel_rfl) (by kernel_rfl) rfl ?_
    refine WpH.vD 0 (some 34) ?_ rfl rfl (by kernel_rfl) (fun _ _ _ h => h) rfl (fun wz hwz => ?_) ?_
    rotate_left
    ·go_simp; try (with_reducible rfl)
    simp only [Zp, Zq, Zr, Zs]
    refine WpH.vD 1 (some 35) ?_ rfl rfl (by kernel_rfl) (fun _ _ _ h => h) rfl (fun wz hwz => ?_) ?_
    rotate_left
    ·(obtain ⟨hcz, hfz⟩ := bcell hwz; go_simp; try (with_reducible rfl))
    simp only [Zp, Zq, Zr, Zs]
    refine WpH.vD 2 (some 36) ?_ rfl rfl (by kernel_rfl) (fun _ _ _ h => h) rfl (fun wz hwz => ?_) ?_
    rotate_left
    ·(obtain ⟨hcz, hfz⟩ := bcell hwz; go_simp; try (with_reducible rfl))
    simp only [Zp, Zq, Zr, Zs]
    refine WpH.takeD 3 (some 37) rfl rfl (by kernel_rfl) (fun _ _ _ h => h) (.call rfl (fun wz hwz => HIN.out wz) (fun wz hwz => ?_)) ?_
    ·go_simp; try (with_reducible rfl)
    simp only [Zp, Zq, Zr, Zs]
    refine WpH.vD 4 (some 38) ?_ rfl rfl (by kernel_rfl) (fun _ _ _ h => h) rfl (fun wz hwz => ?_) ?_
    rotate_left
    ·go_simp; try (with_reducible rfl)
    simp only [Zp, Zq, Zr, Zs]
    refine WpH.vD 5 (some 39) ?_ rfl rfl (by kernel_rfl) (fun _ _ _ h => h) rfl (fun wz hwz => ?_) ?_
    rotate_left
    ·go_simp; try (with_reducible rfl)
    simp only [Zp, Zq, Zr, Zs]
    refine WpH.vD 6 (some 40) ?_ rfl rfl (by kernel_rfl) (fun _ _ _ h => h) rfl (fun wz hwz => ?_) ?_
    rotate_left
    ·go_simp; try (with_reducible rfl)
    simp only [Zp, Zq, Zr, Zs]
    refine WpH.vD 7 (some 41) ?_ rfl rfl (by kernel_rfl) (fun _ _ _ h => h) rfl (fun wz hwz => ?_) ?_
    rotate_left
    ·(obtain ⟨hcz, hfz⟩ := bcell hwz; go_simp; try (with_reducible rfl))
    simp only [Zp, Zq, Zr, Zs]
    refine WpH.vD 8 (some 42) ?_ rfl rfl (by kernel_rfl) (fun _ _ _ h => h) rfl (fun wz hwz => ?_) ?_
    rotate_left
    ·go_simp; try (with_reducible rfl)
    simp only [Zp, Zq, Zr, Zs]
    refine WpH.vD 9 (some 43) ?_ rfl rfl (by kernel_rfl) (fun _ _ _ h => h) rfl (fun wz hwz => ?_) ?_
    rotate_left
    ·go_simp; try (with_reducible rfl)
    simp only [Zp, Zq, Zr, Zs]
    refine WpH.vD 10 (some 44) ?_ rfl rfl (by kernel_rfl) (fun _ _ _ h => h) rfl (fun wz hwz => ?_) ?_
    rotate_left
    ·go_simp; try (with_reducible rfl)
    simp only [Zp, Zq, Zr, Zs]
    refine WpH.takeD 11 (some 45) rfl rfl (by kernel_rfl) (fun _ _ _ h => h) (.skip rfl) ?_
    simp only [Zp, Zq, Zr, Zs]
    refine WpH.takeD 12 (some 46) rfl rfl (by kernel_rfl) (fun _ _ _ h => h) (.skip rfl) ?_
    simp only [Zp, Zq, Zr, Zs]
    refine WpH.takeD 13 (some 47) rfl rfl (by kernel_rfl) (fun _ _ _ h => h) (.skip rfl) ?_
    simp only [Zp, Zq, Zr, Zs]
    refine WpH.takeD 14 (some 48) rfl rfl (by kernel_rfl) (fun _ _ _ h => h) (.skip rfl) ?_
    simp only [Zp, Zq, Zr, Zs]
    refine WpH.takeD 15 (some 49) rfl rfl (by kernel_rfl) (fun _ _ _ h => h) (.skip rfl) ?_
    simp only [Zp, Zq, Zr, Zs]
    refine WpH.takeD 16 (some 50) rfl rfl (by kernel_rfl) (fun _ _ _ h => h) (.skip rfl) ?_
    simp only [Zp, Zq, Zr, Zs]
    refine WpH.takeD 17 (some 51) rfl rfl (by kernel_rfl) (fun _ _ _ h => h) (.skip rfl) ?_
    simp only [Zp, Zq, Zr, Zs]
    refine WpH.takeD 18 (some 52) rfl rfl (by kernel_rfl) (fun _ _ _ h => h) (.skip rfl) ?_
    simp only [Zp, Zq, Zr, Zs]
    refine WpH.doneB (by kernel_rfl) (fun w6 hw6 => ?_)
    (try simp only [List.drop_succ_cons]); (try simp only [List.drop_zero]); (try simp only [Nat.reduceSub]); (try simp only [List.take_succ_cons]); (try simp only [List.take_zero])
    clear x0 x1 x2 x3 x4 x5 x6 x7 x8 x9 x10 x11 x12 v0 v1 v2 v3 v4
    replace hbw := bl_call hbw (Nat.le_refl _) hw6
    replace hx := hx.call hw6
    replace hv := hv.call hw6
    replace hown := own_call hown hw6
    go_wp2_with fail
    go_ret2
    exact .inl ⟨by rw [HD6.out]; omega, by rw [HD6.out]; exact ⟨rfl, hbw⟩⟩
   subst hz
   by_cases hgt : (KM : Int) < a0
   ·have hbad : decBad mo kn (a0, 0) = true := by
     unfold decBad
     dsimp only
     rw [hKMi, Bool.or_eq_true, decide_eq_true_eq]
     exact .inr hgt
    have HD6 : Hid (decN y l kn = 6) := by
     show decN y l kn = 6
     rw [HD.out, if_pos (List.any_eq_true.2 ⟨_, List.mem_of_getElem? HE.out, hbad⟩)]
    have hd : decide ((KM : Int) < a0) = true := decide_eq_true hgt
    clear hbad
    refine region_B (n := 19) (m := 20) (f := 19) (by kernel_rfl) (by kernel_rfl) rfl ?_
    refine WpH.vD 0 (some 34) ?_ rfl rfl (by kernel_rfl) (fun _ _ _ h => h) rfl (fun wz hwz => ?_) ?_
    rotate_left
    ·go_simp; try (with_reducible rfl)
    simp only [Zp, Zq, Zr, Zs]
    refine WpH.vD 1 (some 35) ?_ rfl rfl (by kernel_rfl) (fun _ _ _ h => h) rfl (fun wz hwz => ?_) ?_
    rotate_left
    ·(obtain ⟨hcz, hfz⟩ := bcell hwz; go_simp; try (with_reducible rfl))
    simp only [Zp, Zq, Zr, Zs]
    refine WpH.vD 2 (some 36) ?_ rfl rfl (by kernel_rfl) (fun _ _ _ h => h) rfl (fun wz hwz => ?_) ?_
    rotate_left
    ·(obtain ⟨hcz, hfz⟩ := bcell hwz; go_simp; try (with_reducible rfl))
    simp only [Zp, Zq, Zr, Zs]
    refine WpH.takeD 3 (some 37) rfl rfl (by kernel_rfl) (fun _ _ _ h => h) (.call rfl (fun wz hwz => HIN.out wz) (fun wz hwz => ?_)) ?_
    ·go_simp; try (with_reducible rfl)
    simp only [Zp, Zq, Zr, Zs]
    refine WpH.vD 4 (some 38) ?_ rfl rfl (by kernel_rfl) (fun _ _ _ h => h) rfl (fun wz hwz => ?_) ?_
    rotate_left
    ·go_simp; try (with_reducible rfl)
    simp only [Zp, Zq, Zr, Zs]
    refine WpH.vD 5 (some 39) ?_ rfl rfl (by kernel_rfl) (fun _ _ _ h => h) rfl (fun wz hwz => ?_) ?_
    rotate_left
    ·go_simp; try (with_reducible rfl)
    simp only [Zp, Zq, Zr, Zs]
    refine WpH.vD 6 (some 40) ?_ rfl rfl (by kernel_rfl) (fun _ _ _ h => h) rfl (fun wz hwz => ?_) ?_
    rotate_left
    ·go_simp; try (with_reducible rfl)
    simp only [Zp, Zq, Zr, Zs]
    refine WpH.vD 7 (some 41) ?_ rfl rfl (by kernel_rfl) (fun _ _ _ h => h) rfl (fun wz hwz => ?_) ?_
    rotate_left
    ·(obtain ⟨hcz, hfz⟩ := bcell hwz; go_simp; try (with_reducible rfl))
    simp only [Zp, Zq, Zr, Zs]
    refine WpH.vD 8 (some 42) ?_ rfl rfl (by kernel_rfl) (fun _ _ _ h => h) rfl (fun wz hwz => ?_) ?_
    rotate_left
    ·go_simp; try (with_reducible rfl)
    simp only [Zp, Zq, Zr, Zs]
    refine WpH.vD 9 (some 43) ?_ rfl rfl (by kernel_rfl) (fun _ _ _ h => h) rfl (fun wz hwz => ?_) ?_
    rotate_left
    ·go_simp; try (with_reducible rfl)
    simp only [Zp, Zq, Zr, Zs]
    refine WpH.vD 10 (some 44) ?_ rfl rfl (by kernel_rfl) (fun _ _ _ h => h) rfl (fun wz hwz => ?_) ?_
    rotate_left
    ·go_simp; try (with_reducible rfl)
    simp only [Zp, Zq, Zr, Zs]
    refine WpH.vD 11 (some 45) ?_ rfl rfl (by kernel_rfl) (fun _ _ _ h => h) rfl (fun wz hwz => ?_) ?_
    rotate_left
    ·go_simp; try (with_reducible rfl)
    simp only [Zp, Zq, Zr, Zs]
    refine WpH.vD 12 (some 46) ?_ rfl rfl (by kernel_rfl) (fun _ _ _ h => h) rfl (fun wz hwz => ?_) ?_
    rotate_left
    ·(obtain ⟨hcz, hfz⟩ := bcell hwz; go_simp; try (with_reducible rfl))
    simp only [Zp, Zq, Zr, Zs]
    refine WpH.vD 13 (some 47) ?_ rfl rfl (by kernel_rfl) (fun _ _ _ h => h) rfl (fun wz hwz => ?_) ?_
    rotate_left
    ·go_simp; try (with_reducible rfl)
    simp only [Zp, Zq, Zr, Zs]
    refine WpH.vD 14 (some 48) ?_ rfl rfl (by kernel_rfl) (fun _ _ _ h => h) rfl (fun wz hwz => ?_) ?_
    rotate_left
    ·go_simp; try (with_reducible rfl)
    simp only [Zp, Zq, Zr, Zs]
    refine WpH.vD 15 (some 49) ?_ rfl rfl (by kernel_rfl) (fun _ _ _ h => h) rfl (fun wz hwz => ?_) ?_
    rotate_left
    ·(obtain ⟨hcz, hfz⟩ := bcell hwz; go_simp; try (with_reducible rfl))
    simp only [Zp, Zq, Zr, Zs]
    refine WpH.takeD 16 (some 50) rfl rfl (by kernel_rfl) (fun _ _ _ h => h) (.call rfl (fun wz hwz => HM.out wz) (fun wz hwz => ?_)) ?_
    ·go_simp; try (with_reducible rfl)
    simp only [Zp, Zq, Zr, Zs]
    refine WpH.vD 17 (some 51) ?_ rfl rfl (by kernel_rfl) (fun _ _ _ h => h) rfl (fun wz hwz => ?_) ?_
    rotate_left
    ·go_simp; try (with_reducible rfl)
    simp only [Zp, Zq, Zr, Zs]
    refine WpH.vD 18 (some 52) ?_ rfl rfl (by kernel_rfl) (fun _ _ _ h => h) rfl (fun wz hwz => ?_) ?_
    rotate_left
    ·go_simp; try (with_reducible rfl)
    simp only [Zp, Zq, Zr, Zs]
    refine WpH.doneB (by kernel_rfl) (fun w6 hw6 => ?_)
    (try simp only [List.drop_succ_cons]); (try simp only [List.drop_zero]); (try simp only [Nat.reduceSub]); (try simp only [List.take_succ_cons]); (try simp only [List.take_zero])
    clear x0 x1 x2 x3 x4 x5 x6 x7 x8 x9 x10 x11 x12 v0 v1 v2 v3 v4
    replace hbw := bl_call hbw (Nat.le_refl _) hw6
    replace hx := hx.call hw6
    replace hv := hv.call hw6
    replace hown := own_call hown hw6
    go_wp2_with fail
    go_ret2
    exact .inl ⟨by rw [HD6.out]; omega, by rw [HD6.out]; exact ⟨rfl, hbw⟩⟩
   ·have hgood : decBad mo kn (a0, 0) = false := by
     unfold decBad
     dsimp only
     rw [hKMi, Bool.or_eq_false_iff, decide_eq_false_iff_not]
     exact ⟨rfl, hgt⟩
    have HANY := Lib.hid (any_take HE.out hany.out hgood)
    have hd : decide ((KM : Int) < a0) = false := decide_eq_false hgt
    clear hgood hgt
    refine region_B (n := 19) (m := 20) (f := 19) (by kernel_rfl) (by kernel_rfl) rfl ?_
    refine WpH.vD 0 (some 34) ?_ rfl rfl (by kernel_rfl) (fun _ _ _ h => h) rfl (fun wz hwz => ?_) ?_
    rotate_left
    ·go_simp; try (with_reducible rfl)
    simp only [Zp, Zq, Zr, Zs]
    refine WpH.vD 1 (some 35) ?_ rfl rfl (by kernel_rfl) (fun _ _ _ h => h) rfl (fun wz hwz => ?_) ?_
    rotate_left
    ·(obtain ⟨hcz, hfz⟩ := bcell hwz; go_simp; try (with_reducible rfl))
    simp only [Zp, Zq, Zr, Zs]
    refine WpH.vD 2 (some 36) ?_ rfl rfl (by kernel_rfl) (fun _ _ _ h => h) rfl (fun wz hwz => ?_) ?_
    rotate_left
    ·(obtain ⟨hcz, hfz⟩ := bcell hwz; go_simp; try (with_reducible rfl))
    simp only [Zp, Zq, Zr, Zs]
    refine WpH.takeD 3 (some 37) rfl rfl (by kernel_rfl) (fun _ _ _ h => h) (.call rfl (fun wz hwz => HIN.out wz) (fun wz hwz => ?_)) ?_
    ·go_simp; try (with_reducible rfl)
    simp only [Zp, Zq, Zr, Zs]
    refine WpH.vD 4 (some 38) ?_ rfl rfl (by kernel_rfl) (fun _ _ _ h => h) rfl (fun wz hwz => ?_) ?_
    rotate_left
    ·go_simp; try (with_reducible rfl)
    simp only [Zp, Zq, Zr, Zs]
    refine WpH.vD 5 (some 39) ?_ rfl rfl (by kernel_rfl) (fun _ _ _ h => h) rfl (fun wz hwz => ?_) ?_
    rotate_left
    ·go_simp; try (with_reducible rfl)
    simp only [Zp, Zq, Zr, Zs]
    refine WpH.vD 6 (some 40) ?_ rfl rfl (by kernel_rfl) (fun _ _ _ h => h) rfl (fun wz hwz => ?_) ?_
    rotate_left
    ·go_simp; try (with_reducible rfl)
    simp only [Zp, Zq, Zr, Zs]
    refine WpH.vD 7 (some 41) ?_ rfl rfl (by kernel_rfl) (fun _ _ _ h => h) rfl (fun wz hwz => ?_) ?_
    rotate_left
    ·(obtain ⟨hcz, hfz⟩ := bcell hwz; go_simp; try (with_reducible rfl))
    simp only [Zp, Zq, Zr, Zs]
    refine WpH.vD 8 (some 42) ?_ rfl rfl (by kernel_rfl) (fun _ _ _ h => h) rfl (fun wz hwz => ?_) ?_
    rotate_left
    ·go_simp; try (with_reducible rfl)
    simp only [Zp, Zq, Zr, Zs]
    refine WpH.vD 9 (some 43) ?_ rfl rfl (by kernel_rfl) (fun _ _ _ h => h) rfl (fun wz hwz => ?_) ?_
    rotate_left
    ·go_simp; try (with_reducible rfl)
    simp only [Zp, Zq, Zr, Zs]
    refine WpH.vD 10 (some 44) ?_ rfl rfl (by kernel_rfl) (fun _ _ _ h => h) rfl (fun wz hwz => ?_) ?_
    rotate_left
    ·go_simp; try (with_reducible rfl)
    simp only [Zp, Zq, Zr, Zs]
    refine WpH.vD 11 (some 45) ?_ rfl rfl (by kernel_rfl) (fun _ _ _ h => h) rfl (fun wz hwz => ?_) ?_
    rotate_left
    ·go_simp; try (with_reducible rfl)
    simp only [Zp, Zq, Zr, Zs]
    refine WpH.vD 12 (some 46) ?_ rfl rfl (by kernel_rfl) (fun _ _ _ h => h) rfl (fun wz hwz => ?_) ?_
    rotate_left
    ·(obtain ⟨hcz, hfz⟩ := bcell hwz; go_simp; try (with_reducible rfl))
    simp only [Zp, Zq, Zr, Zs]
    refine WpH.vD 13 (some 47) ?_ rfl rfl (by kernel_rfl) (fun _ _ _ h => h) rfl (fun wz hwz => ?_) ?_
    rotate_left
    ·go_simp; try (with_reducible rfl)
    simp only [Zp, Zq, Zr, Zs]
    refine WpH.vD 14 (some 48) ?_ rfl rfl (by kernel_rfl) (fun _ _ _ h => h) rfl (fun wz hwz => ?_) ?_
    rotate_left
    ·go_simp; try (with_reducible rfl)
    simp only [Zp, Zq, Zr, Zs]
    refine WpH.vD 15 (some 49) ?_ rfl rfl (by kernel_rfl) (fun _ _ _ h => h) rfl (fun wz hwz => ?_) ?_
    rotate_left
    ·(obtain ⟨hcz, hfz⟩ := bcell hwz; go_simp; try (with_reducible rfl))
    simp only [Zp, Zq, Zr, Zs]
    refine WpH.takeD 16 (some 50) rfl rfl (by kernel_rfl) (fun _ _ _ h => h) (.call rfl (fun wz hwz => HM.out wz) (fun wz hwz => ?_)) ?_
    ·go_simp; try (with_reducible rfl)
    simp only [Zp, Zq, Zr, Zs]
    refine WpH.vD 17 (some 51) ?_ rfl rfl (by kernel_rfl) (fun _ _ _ h => h) rfl (fun wz hwz => ?_) ?_
    rotate_left
    ·go_simp; try (with_reducible rfl)
    simp only [Zp, Zq, Zr, Zs]
    refine WpH.vD 18 (some 52) ?_ rfl rfl (by kernel_rfl) (fun _ _ _ h => h) rfl (fun wz hwz => ?_) ?_
    rotate_left
    ·go_simp; try (with_reducible rfl)
    simp only [Zp, Zq, Zr, Zs]
    refine WpH.doneB (by kernel_rfl) (fun w6 hw6 => ?_)
    (try simp only [List.drop_succ_cons]); (try simp only [List.drop_zero]); (try simp only [Nat.reduceSub]); (try simp only [List.take_succ_cons]); (try simp only [List.take_zero])
    clear x0 x1 x2 x3 x4 x5 x6 x7 x8 x9 x10 x11 x12 v0 v1 v2 v3 v4
    have hz6 := hw6.size
    replace hbw := bl_call hbw (Nat.le_refl _) hw6
    replace hx := hx.call hw6
    replace hv := hv.call hw6
    replace hown := own_call hown hw6
    obtain ⟨⟨x0, x1, x2, x3, x4, x5⟩, ⟨x6, x7, x8, x9, x10, x11⟩, x12⟩ := hx.get6
    obtain ⟨v0, v1, v2, v3, v4⟩ := V2.mk hv.c0 hv.c1 hv.f0 hv.f1 hv.lt
    obtain ⟨zs, hzs⟩ : ∃ zs : List Int, (l.take q).map (·.1) = zs := ⟨_, rfl⟩
    rw [hzs] at hown
    have HZS := Lib.hid hzs
    have HOW := Lib.hid (hown.alloc (.cells #[.int .u64 a0] 22))
    have hbase : w.heap.size + 1 ≤ (w6.alloc (.cells #[.int .u64 a0] 22)).heap.size := by rw [World.size_alloc]; omega
    have HR1 : Hid (0 < 1 → ∃ b o, (some ⟨w6.heap.size, 0, none⟩ : Option Addr) = some ⟨b, o, none⟩ ∧ RowU (w6.alloc (.cells #[.int .u64 a0] 22)) b o [a0]) := by
     intro _
     refine ⟨_, _, rfl, fun i e hi => ?_⟩
     have hV := Vs.new w6 [.int .u64 a0] #[.int .u64 a0] 22 rfl
     match i, hi with
     | 0, hi =>
      obtain rfl : a0 = e := by simpa using hi
      exact hV.cell 0 _ rfl
     | i + 1, hi => simp at hi
    have HT : Hid (cellsU ((l.take (q + 1)).map (·.1)) = cellsU (zs ++ [a0])) := by
     show cellsU ((l.take (q + 1)).map (·.1)) = _
     rw [List.take_add_one, HE.out, List.map_append, HZS.out]
     rfl
    have hk1 : q + 1 ≤ 1099511627776 := by omega
    clear hown hw6 hzs
    go_wp2_with (at_builtin; (refine wpList_append_U rfl (.tmp 54) (.tmp 57) rfl (w.heap.size + 1) _ q zs rfl HOW.out (some ⟨w6.heap.size, 0, none⟩) 1 1 [a0] rfl rfl HR1.out hk1 hbase ?_; intro v2 w7 hown7 hg7 hat7; have hb7 : Below (w.heap.size + 1) (w6.alloc (.cells #[.int .u64 a0] 22)) w7 := (Below.refl _ _).grown hg7 hbase (fun q hq => (HOW.out.lt q hq).1); obtain ⟨g2, cap2, hv2⟩ := own_slice hown7; rw [hv2]))
    rw [hv2, ← HT.out] at hown7
    have hx7 := (hx.alloc (.cells #[.int .u64 a0] 22)).belowB hb7 (by omega)
    have hbw7 : Below w.heap.size w w7 := (hbw.alloc (by have := hbw.size; omega) (.cells #[.int .u64 a0] 22)).trans (hb7.mono (by omega))
    have hz7 := hb7.size
    go_roundw
    case rel => exact ⟨q + 1, _, cap2, by omega, by go_num, rfl, HANY.out, hx7, hown7, hbw7, by omega⟩
    case measure => simp [intOf]; omega
  ·obtain rfl : q = l.length := by omega
   rw [List.take_length] at hany hown
   have HD0 : Hid (decN y l kn = 0) := by
    show decN y l kn = 0
    rw [HD.out, hany.out]
    rfl
   go_wp2_with fail
   go_ret2
   refine .inr ⟨HD0.out, _, rfl, ?_, hbw⟩
   have hlen : (l.map (·.1)).length = l.length := List.length_map ..
   refine (fun (h : SlU _ _ _ _) => ⟨h, by rw [hlen]; exact own_lower hown (Nat.le_succ _)⟩) (SlU.of_own (xs := l.map (·.1)) (by rw [hlen]; exact hown) (fun e he => by
    obtain ⟨x, hx, rfl⟩ := List.mem_map.1 he
    exact ⟨(hok x hx).1, (hok x hx).2.1⟩))

end Go.Proofs.Ytbakkmfjamcbfaa

namespace Go.Proofs.Ytbakkmfjamcbfaa
open Go.RowKit Fm
set_option linter.unusedVariables false
set_option maxRecDepth 100000

set_option maxHeartbeats 4000000 in
theorem total_UnshardO {f : Nat} (hf : IsF f) (y : CK) (hy : y.ok) (hcalls : ¬ 511 < y.calls) (pq : Int) (s : ByteArray) (n : Nat) (hn : y.nout = n) (hn70 : n ≤ 70)
  (HC : ∀ wz, Calls Try.prog 43 #[.agg #[.int .u8 ((y.k : Nat) : Int), .int .u8 (f : Int), .int .i64 ((y.b : Nat) : Int), .int .i64 ((y.l : Nat) : Int), .int .i64 ((y.m : Nat) : Int), .int .i64 ((y.c : Nat) : Int), .int .i64 pq, .string s]] wz (RetC 0 wz))
  (M : Nat) (hM : M ≤ 256) (K : List Int) (hK : K.length = 16) (vx vo : Value) (xs os : KL f) (T : List Nat) (hT : addL xs os = T.map (nK f)) (hTl : T.length = n) (hT32 : ∀ t, t ∈ T → t < 4294967296) (hTm : ∀ t, t ∈ T → t ≤ M * y.most) (w : World) (hx : SlK w w.heap.size vx xs) (ho : SlK w w.heap.size vo os) (hxl : xs.length = n) (hol : os.length = n) :
  Calls Try.prog 38 #[.agg #[.int .u8 ((y.k : Nat) : Int), .int .u8 (f : Int), .int .i64 ((y.b : Nat) : Int), .int .i64 ((y.l : Nat) : Int), .int .i64 ((y.m : Nat) : Int), .int .i64 ((y.c : Nat) : Int), .int .i64 pq, .string s], .agg (totL vx (M : Int) K).toArray, .agg (totL vo (M : Int) K).toArray] w
   fun e w' => ∃ (A : Option Addr) (cp : Nat), e = .returned (.tuple #[.slice A n cp, .int .i64 0]) ∧ (SlU w' w'.heap.size (.slice A n cp) (natsI T) ∧ w'.ownsRow w.heap.size 22 1 (.slice A n cp) n (cellsU (natsI T))) ∧ Below w.heap.size w w' := by
 have HADD : Hid (∀ wz, Below w.heap.size w wz → Calls Try.prog 58 #[.int .u8 f, vx, vo] wz fun e w' => ∃ g, e = .returned (.tuple #[.slice (some ⟨g, 0, none⟩) n n, .int .i64 0]) ∧ BlkE w' g (nEs T) ∧ wz.heap.size ≤ g ∧ Below wz.heap.size wz w') := fun wz hb => by
  have h := addvec_n hf (by omega : n ≤ 1000000) hxl hol wz (hx.later hb) (ho.later hb)
  rwa [hT, esK_nK hf hT32] at h
 have hdec : decN y (nEs T) (M : Int) = 0 := by
  unfold decN
  rw [if_pos (by rw [nEs_len, hTl, hn]), if_neg (by omega), if_neg]
  intro h
  rw [List.any_eq_true] at h
  obtain ⟨e, he, hbad⟩ := h
  unfold nEs at he
  obtain ⟨t, ht, rfl⟩ := List.mem_map.1 he
  unfold decBad at hbad
  have h1 := hTm t ht
  simp at hbad
  have h2 : (M : Int) * (y.most : Int) = ((M * y.most : Nat) : Int) := by rw [Int.natCast_mul]
  rw [h2] at hbad
  omega
 have HDEC : Hid (∀ (g : Nat) wz, BlkE wz g (nEs T) → Calls Try.prog 70 #[.agg #[.int .u8 ((y.k : Nat) : Int), .int .u8 (f : Int), .int .i64 ((y.b : Nat) : Int), .int .i64 ((y.l : Nat) : Int), .int .i64 ((y.m : Nat) : Int), .int .i64 ((y.c : Nat) : Int)], .slice (some ⟨g, 0, none⟩) n n, .int .i64 (M : Int)] wz
   fun e w' => ∃ (A : Option Addr) (cp : Nat), e = .returned (.tuple #[.slice A n cp, .int .i64 0]) ∧ (SlU w' w'.heap.size (.slice A n cp) (natsI T) ∧ w'.ownsRow wz.heap.size 22 1 (.slice A n cp) n (cellsU (natsI T))) ∧ Below wz.heap.size wz w') := fun g wz h => by
  have hsl : SlE wz wz.heap.size (.slice (some ⟨g, 0, none⟩) n n) (nEs T) := by
   rw [← esK_nK hf hT32] at h ⊢
   exact (BlkE.slNn h (by rw [List.length_map, hTl]) (by omega)).toE
  refine (circuit_DecodeN hf y hy hcalls _ (nEs T) (M : Int) wz hsl (by rw [nEs_len, hTl]; exact hn70)).mono fun e w' h9 => ?_
  rcases h9 with ⟨h1, _⟩ | ⟨_, v, he, hv, hb⟩
  ·exact absurd hdec h1
  ·have e9 : (nEs T).map (·.1) = natsI T := by
    unfold nEs natsI
    rw [List.map_map]
    rfl
   rw [e9] at hv
   obtain ⟨⟨⟨A, c, hve, k1, k2, k3⟩, ok⟩, hwn⟩ := hv
   have hl : (natsI T).length = n := by unfold natsI; rw [List.length_map, hTl]
   rw [hl] at hve hwn
   subst hve
   exact ⟨A, c, he, ⟨⟨⟨A, c, by rw [hl], k1, k2, k3⟩, ok⟩, hwn⟩, hb⟩
 have HC := Lib.hid HC
 have HK1 := Lib.hid hK
 have HK2 := Lib.hid hK
 have HEQ : Hid (∀ wz, (Op.equalIn 10000 74 (.agg (cells8 K).toArray) (.agg (cells8 K).toArray)).run Try.prog wz = .ok true wz) := fun wz => by
  rw [run_equalIn_16 9998 Try.underlying74 hK hK]
  simp
 have hx9 := hx
 obtain ⟨A1, c1, hv1, _⟩ := hx9
 have ho9 := ho
 obtain ⟨A2, c2, hv2, _⟩ := ho9
 rw [hxl] at hv1
 rw [hol] at hv2
 subst hv1 hv2
 obtain ⟨vx, hvx⟩ : ∃ z, Value.slice A1 n c1 = z := ⟨_, rfl⟩
 obtain ⟨vo, hvo⟩ : ∃ z, Value.slice A2 n c2 = z := ⟨_, rfl⟩
 rw [hvx, hvo] at HADD
 rw [hvx, hvo]
 obtain ⟨M9, hM9⟩ : ∃ z : Int, (M : Int) = z := ⟨_, rfl⟩
 rw [hM9] at HDEC ⊢
 clear hvx hvo hK hx ho hxl hol hT hTl hT32 hTm hdec hM hn hn70 hcalls hy hf hM9
 generalize ((y.k : Nat) : Int) = yk at *
 generalize ((y.b : Nat) : Int) = yb at *
 generalize ((y.l : Nat) : Int) = yl at *
 generalize ((y.m : Nat) : Int) = ym at *
 generalize ((y.c : Nat) : Int) = yc at *
 generalize ((f : Nat) : Int) = F at *
 obtain ⟨K1, hK1⟩ : ∃ z, K = z := ⟨_, rfl⟩
 subst hK1
 go_enter Try.func38, Try.ntmps38
 go_upto_region 1 with fail
 have hT := ((Vs.new w [.int .u8 yk, .int .u8 F, .int .i64 yb, .int .i64 yl, .int .i64 ym, .int .i64 yc, .int .i64 pq, .string s] #[.int .u8 yk, .int .u8 F, .int .i64 yb, .int .i64 yl, .int .i64 ym, .int .i64 yc, .int .i64 pq, .string s] 62 rfl).alloc (.cells (totL vx M9 K).toArray 76)).alloc (.cells (totL vo M9 K).toArray 76)
 have hX := (Vs.new (w.alloc (.cells #[.int .u8 yk, .int .u8 F, .int .i64 yb, .int .i64 yl, .int .i64 ym, .int .i64 yc, .int .i64 pq, .string s] 62)) (totL vx M9 K) ((totL vx M9 K).toArray) 76 rfl).alloc (.cells (totL vo M9 K).toArray 76)
 have hY := Vs.new ((w.alloc (.cells #[.int .u8 yk, .int .u8 F, .int .i64 yb, .int .i64 yl, .int .i64 ym, .int .i64 yc, .int .i64 pq, .string s] 62)).alloc (.cells (totL vx M9 K).toArray 76)) (totL vo M9 K) ((totL vo M9 K).toArray) 76 rfl
 simp only [World.size_alloc] at hX hY
 have hb00 : Below w.heap.size w (((w.alloc (.cells #[.int .u8 yk, .int .u8 F, .int .i64 yb, .int .i64 yl, .int .i64 ym, .int .i64 yc, .int .i64 pq, .string s] 62)).alloc (.cells (totL vx M9 K).toArray 76)).alloc (.cells (totL vo M9 K).toArray 76)) := by repeat (first | exact bA | with_reducible assumption | apply bB)
 have hszn : w.heap.size + 3 ≤ (((w.alloc (.cells #[.int .u8 yk, .int .u8 F, .int .i64 yb, .int .i64 yl, .int .i64 ym, .int .i64 yc, .int .i64 pq, .string s] 62)).alloc (.cells (totL vx M9 K).toArray 76)).alloc (.cells (totL vo M9 K).toArray 76)).heap.size := by simp only [World.size_alloc]; omega
 generalize (((w.alloc (.cells #[.int .u8 yk, .int .u8 F, .int .i64 yb, .int .i64 yl, .int .i64 ym, .int .i64 yc, .int .i64 pq, .string s] 62)).alloc (.cells (totL vx M9 K).toArray 76)).alloc (.cells (totL vo M9 K).toArray 76)) = w1 at hT hX hY hb00 hszn ⊢
 obtain ⟨⟨T0, T1, T2, T3, T4, T5, T6, T7⟩, ⟨T8, T9, T10, T11, T12, T13, T14, T15⟩, T16⟩ := hT.get8
 obtain ⟨x0, x1, x2, x3, x4⟩ := hX.tot
 obtain ⟨y0, y1, y2, y3, y4⟩ := hY.tot
 go_upto_region 6 with (first
  | (go_at_call 43; refine (HC.out _).mono ?_; rintro e w2 ⟨rfl, hb2⟩; replace hb00 := bl_call hb00 (Nat.le_refl _) hb2; replace hX := hX.call hb2; replace hT := hT.call hb2; replace hY := hY.call hb2; clear T0 T1 T2 T3 T4 T5 T6 T7 T8 T9 T10 T11 T12 T13 T14 T15 T16; clear hb2; obtain ⟨⟨T0, T1, T2, T3, T4, T5, T6, T7⟩, ⟨T8, T9, T10, T11, T12, T13, T14, T15⟩, T16⟩ := hT.get8; clear x0 x1 x2 x3 x4 y0 y1 y2 y3 y4; obtain ⟨x0, x1, x2, x3, x4⟩ := hX.tot; obtain ⟨y0, y1, y2, y3, y4⟩ := hY.tot))
 refine wp_region_lit ?_
 refine wpList_valD (some 23) rfl rfl (by (go_simp; first | with_reducible rfl | exact ⟨rfl, rfl⟩ | (trace_state; fail))) ?_
 simp only [Zp, Zq, Zr, Zs]
 refine wpList_valD (some 24) rfl rfl (exec_load rfl (by kernel_rfl) (hX.loadTC HK1.out)) ?_
 simp only [Zp, Zq, Zr, Zs]
 refine wpList_valD (some 25) rfl rfl (by (go_simp; first | with_reducible rfl | exact ⟨rfl, rfl⟩ | (trace_state; fail))) ?_
 simp only [Zp, Zq, Zr, Zs]
 refine wpList_valD (some 26) rfl rfl (exec_load rfl (by kernel_rfl) (hY.loadTC HK2.out)) ?_
 simp only [Zp, Zq, Zr, Zs]
 refine wpList_valD (some 27) rfl rfl (by (have hz := HEQ.out w2; go_simp; first | with_reducible rfl | exact ⟨rfl, rfl⟩ | (trace_state; fail))) ?_
 simp only [Zp, Zq, Zr, Zs]
 refine wpList_valD (some 22) rfl rfl (by (go_simp; first | with_reducible rfl | exact ⟨rfl, rfl⟩ | (trace_state; fail))) ?_
 simp only [Zp, Zq, Zr, Zs]
 go_wp2_with (first | (go_at_call 58; refine (HADD.out _ hb00).mono ?_; rintro e w5 ⟨g, rfl, hB, hg, hb5⟩; replace hb00 := bl_call hb00 (Nat.le_refl _) hb5; replace hX := hX.call hb5; replace hT := hT.call hb5; clear x0 x1 x2 x3 x4; obtain ⟨x0, x1, x2, x3, x4⟩ := hX.tot; clear T0 T1 T2 T3 T4 T5 T6 T7 T8 T9 T10 T11 T12 T13 T14 T15 T16; obtain ⟨⟨T0, T1, T2, T3, T4, T5, T6, T7⟩, ⟨T8, T9, T10, T11, T12, T13, T14, T15⟩, T16⟩ := hT.get8) | (go_at_call 70; refine (HDEC.out _ _ hB).mono ?_; rintro e w6 ⟨A, cp, rfl, hsl, hb6⟩; have HSL := Lib.hid hsl; clear hsl))
 go_ret2
 exact ⟨_, _, rfl, ⟨HSL.out.1, own_lower HSL.out.2 hb00.size⟩, bl_call hb00 (Nat.le_refl _) hb6⟩

end Go.Proofs.Ytbakkmfjamcbfaa

namespace Go.Proofs.Ytbakkmfjamcbfaa
open Go.RowKit Fm
set_option linter.unusedVariables false
set_option maxRecDepth 100000

theorem build_entS (A : Option Addr) (L c : Nat) (w : World) : (Instr.build 44 #[(3, .slice A L c)]).run Try.prog w = .ok (.agg (entL z16 0 (.slice none 0 0) (.slice A L c) 0).toArray) w := by kernel_rfl
theorem build_entsS (A : Option Addr) (L c : Nat) (w : World) : (Instr.buildSlice 25 1 #[(0, .agg (entL z16 0 (.slice none 0 0) (.slice A L c) 0).toArray)]).run Try.prog w = .ok (.slice (some ⟨w.heap.size, 0, none⟩) 1 1) (w.alloc (.cells (entL z16 0 (.slice none 0 0) (.slice A L c) 0).toArray 44)) := by kernel_rfl
theorem build_msg6 {K : List Int} (hK : K.length = 16) (N : Int) (g : Nat) (w : World) : (Instr.build 27 #[(0, .int .u8 6), (1, .int .u64 1), (2, .int .u64 7), (3, .int .i64 N), (4, .agg (cells8 K).toArray), (6, .slice (some ⟨g, 0, none⟩) 1 1)]).run Try.prog w = .ok (.agg (msgL 6 1 7 N K 0 (.slice (some ⟨g, 0, none⟩) 1 1)).toArray) w := by
 obtain ⟨x0, x1, x2, x3, x4, x5, x6, x7, y0, y1, y2, y3, y4, y5, y6, y7, rfl⟩ := list16 hK
 kernel_rfl
theorem chkI_b8 : ∀ i, B8 (chkI i)
 | 0 => z16_b8
 | i + 1 => xorL_B8
theorem X8_same (a : Int) : X8 a a = 0 := by rw [X8_eq, BitVec.xor_self]; rfl
theorem X8_other {a z : Int} (hz : 1 ≤ z ∧ z ≤ 255) : X8 a z ≠ a := by
 intro h
 have h1 := X8_assoc a a z
 rw [h, X8_same, X8_zero ⟨by omega, hz.2⟩] at h1
 omega
theorem set_b8 {K : List Int} (h : B8 K) (i : Nat) (a z : Int) : B8 (K.set i (X8 a z)) := fun x hx => by
 rcases List.mem_or_eq_of_mem_set hx with h1 | rfl
 ·exact h x h1
 ·exact X8_range a z
theorem set_ne {K : List Int} {i : Nat} (hi : i < K.length) {z : Int} (hz : 1 ≤ z ∧ z ≤ 255) : (K == K.set i (X8 (K.getD i 0) z)) = false := beq_eq_false_iff_ne.mpr fun e => by
 have h1 : K.getD i 0 = (K.set i (X8 (K.getD i 0) z)).getD i 0 := congrArg (fun l => l.getD i 0) e
 have h2 : (K.set i (X8 (K.getD i 0) z)).getD i 0 = X8 (K.getD i 0) z := by
  rw [List.getD_eq_getElem?_getD, List.getElem?_set_self hi]
  rfl
 exact X8_other hz (h2.symm.trans h1.symm)
theorem want_7 : wantC [] 7 = 0 ∧ wantQ [] 7 = [7] := wantC_0 (by omega) (by simp) (by simp)

def RcT (w0 : World) (S : Nat → Prop) {ι : Type} (o1 : Option (Option Addr × Nat)) (o2 : Option Nat) (o3 : Option ι) (wz : World) : Prop := Exc S w0.heap.size w0 wz
structure RcK (w0 : World) (S : Nat → Prop) (BS : List Int) (L : Nat) {ι : Type} (R : ι → World → Prop) (o1 : Option (Option Addr × Nat)) (o2 : Option Nat) (o3 : Option ι) (wz : World) : Prop where
 t : Exc S w0.heap.size w0 wz
 u : o3 = none → Below w0.heap.size w0 wz
 a : ∀ p, o1 = some p → o3 = none → SlB wz p.1 BS p.2
 b : ∀ g p, o2 = some g → o1 = some p → o3 = none → Vs wz g (entL z16 0 (.slice none 0 0) (.slice p.1 L p.2) 0)
 c : ∀ r, o3 = some r → R r wz
section
variable {w0 w w' : World} {S : Nat → Prop} {BS : List Int} {L : Nat} {ι : Type} {R : ι → World → Prop} {o1 : Option (Option Addr × Nat)} {o2 : Option Nat} {o3 : Option ι}
theorem RcK.weak (o1 : Option (Option Addr × Nat)) (o2 : Option Nat) (o3 : Option ι) (w : World) (h : RcK w0 S BS L R o1 o2 o3 w) : RcT w0 S o1 o2 o3 w := h.t
theorem RcK.clo (hR : ∀ r w w', R r w → Below w.heap.size w w' → R r w') : Clo (RcK w0 S BS L R o1 o2 o3) := fun w w' h hb => ⟨h.t.call hb, fun e => bl_call (h.u e) (Nat.le_refl _) hb, fun p e e3 => (h.a p e e3).later hb, fun g p e1 e2 e3 => (h.b g p e1 e2 e3).call hb, fun r e => hR r _ _ (h.c r e) hb⟩
theorem RcK.start : RcK w0 S BS L R none none none w0.drew :=
 ⟨exc_of ((Below.refl _ _).drew), fun _ => (Below.refl _ _).drew, fun _ e => (by cases e), fun _ _ e => (by cases e), fun _ e => (by cases e)⟩
theorem RcK.mk1 {A : Option Addr} {c : Nat} (h : RcK w0 S BS L R none none none w) (ho : w'.ownsRow w.heap.size 5 1 (.slice A L c) L (cells8 BS)) (hl : BS.length = L) (hb : Below w.heap.size w w') : RcK w0 S BS L R (some (A, c)) none none w' := by
 refine ⟨h.t.call hb, fun e => bl_call (h.u e) (Nat.le_refl _) hb, fun p e _ => ?_, fun _ _ e => (by cases e), fun _ e => (by cases e)⟩
 injection e with e
 subst e
 exact SlB.own ho hl
theorem RcK.mk2 {p : Option Addr × Nat} (h : RcK w0 S BS L R (some p) none none w) : RcK w0 S BS L R (some p) (some w.heap.size) none (w.alloc (.cells (entL z16 0 (.slice none 0 0) (.slice p.1 L p.2) 0).toArray 44)) := by
 have hb := (Below.refl w.heap.size w).alloc (Nat.le_refl _) (.cells (entL z16 0 (.slice none 0 0) (.slice p.1 L p.2) 0).toArray 44)
 refine ⟨h.t.call hb, fun e => bl_call (h.u e) (Nat.le_refl _) hb, fun q e e3 => (h.a q e e3).later hb, fun g q e1 e2 _ => ?_, fun _ e => (by cases e)⟩
 injection e1 with e1
 injection e2 with e2
 subst e1 e2
 exact Vs.new w _ _ _ rfl
theorem RcK.mk3 {p : Option Addr × Nat} {g : Nat} {r : ι} (h : RcK w0 S BS L R (some p) (some g) none w) (hx : Exc S w.heap.size w w') (hr : R r w') : RcK w0 S BS L R (some p) (some g) (some r) w' := by
 refine ⟨h.t.more hx (fun q e => .inl e), fun e => (by cases e), fun _ _ e => (by cases e), fun _ _ _ _ e => (by cases e), fun r' e => ?_⟩
 injection e with e
 subst e
 exact hr
end

def RaR (w0 : World) (O : Nat → Prop) (c a : Nat) (tk : List Value) (n N : Nat) (K : List Int) (zs : List E) (r : Nat × Option Addr × Nat) (w : World) : Prop :=
 AskS w O c a tk 2 [] [] 1 7 true (.slice r.2.1 n r.2.2) (N : Int) K 2 1 ∧ w.ownsRow w0.heap.size 99 2 (.slice r.2.1 n r.2.2) n (cellsE zs)
theorem RaR.call {w0 : World} {O : Nat → Prop} {c a : Nat} {tk : List Value} {n N : Nat} {K : List Int} {zs : List E} : ∀ (r : Nat × Option Addr × Nat) (w w' : World), RaR w0 O c a tk n N K zs r w → Below w.heap.size w w' → RaR w0 O c a tk n N K zs r w' := fun r w w' h hb => ⟨h.1.call hb, own_call h.2 hb⟩
def RbR (w0 : World) (O : Nat → Prop) (c : Nat) (tk : List Value) (rs : List ResK) (r : Unit) (w : World) : Prop :=
 ∃ O', ColS w O' (fun q => q = c) c tk (.pointer none) 2 [] rs ∧ ∀ q, O' q → O q ∨ w0.heap.size ≤ q
theorem RbR.call {w0 : World} {O : Nat → Prop} {c : Nat} {tk : List Value} {rs : List ResK} : ∀ (r : Unit) (w w' : World), RbR w0 O c tk rs r w → Below w.heap.size w w' → RbR w0 O c tk rs r w' := fun r w w' ⟨O', h1, h2⟩ hb => ⟨O', h1.call hb, h2⟩

end Go.Proofs.Ytbakkmfjamcbfaa
