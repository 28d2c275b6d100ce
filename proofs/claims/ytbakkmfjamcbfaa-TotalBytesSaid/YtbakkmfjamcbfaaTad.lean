/-
 PkL, PkM, BtA, BtB: for TotalBytes.
-/
import Derived.BigQuiet
import Derived.Test.YtbakkmfjamcbfaaTac
namespace Go.Proofs.Ytbakkmfjamcbfaa
open Go.RowKit Fm
set_option linter.unusedVariables false
set_option maxRecDepth 100000

section
variable {f : Nat}


set_option maxHeartbeats 4000000 in
theorem take_A1
  (k f9 b l m c p : Int) (s : ByteArray) (n : Nat) (bs : List Int) (rb B xb tb fb : Nat) (w : World) (hR : RdL w rb B bs) (hX : Vs w xb (totL (.slice none 0 0) 0 z16)) (hT : Vs w tb [.int .u8 k, .int .u8 f, .int .i64 b, .int .i64 l, .int .i64 m, .int .i64 c, .int .i64 p, .string s]) (hF : Vs w fb [.int .u8 f])
    (hBx : B ≤ xb) (hne : xb ≠ rb ∧ tb ≠ rb ∧ fb ≠ rb ∧ xb ≠ tb ∧ xb ≠ fb) (h8 : B8 bs) (M : Nat) (hM : M = n * sizeK f) (hn : n ≤ 4096) (HO : ∀ wz, Calls Try.prog 32 #[.agg #[.int .u8 k, .int .u8 f, .int .i64 b, .int .i64 l, .int .i64 m, .int .i64 c]] wz (RetI n wz))
  (h4 : bs.length < 4) :
  Calls Try.prog 77 #[.pointer (some ⟨rb, 0, none⟩), .pointer (some ⟨xb, 0, none⟩), .pointer (some ⟨tb, 0, none⟩), .pointer (some ⟨fb, 0, none⟩)] w (RetTkC f n M rb B xb bs w) := by
 have HC := Lib.hid (reader_CountS rb B bs h4 w hR)
 go_enter Try.func77, Try.ntmps77
 go_wp2_with (go_at_call 78; refine HC.out.mono ?_; rintro e w2 ⟨rfl, hR2, hx2⟩)
 exact ⟨rfl, hx2.less (fun q _ h => .inl h), .inl ⟨3, rfl, hR2, .inl ⟨rfl, by omega⟩⟩⟩

set_option maxHeartbeats 4000000 in
theorem take_A2
  (k f9 b l m c p : Int) (s : ByteArray) (n : Nat) (bs : List Int) (rb B xb tb fb : Nat) (w : World) (hR : RdL w rb B bs) (hX : Vs w xb (totL (.slice none 0 0) 0 z16)) (hT : Vs w tb [.int .u8 k, .int .u8 f, .int .i64 b, .int .i64 l, .int .i64 m, .int .i64 c, .int .i64 p, .string s]) (hF : Vs w fb [.int .u8 f])
    (hBx : B ≤ xb) (hne : xb ≠ rb ∧ tb ≠ rb ∧ fb ≠ rb ∧ xb ≠ tb ∧ xb ≠ fb) (h8 : B8 bs) (M : Nat) (hM : M = n * sizeK f) (hn : n ≤ 4096) (HO : ∀ wz, Calls Try.prog 32 #[.agg #[.int .u8 k, .int .u8 f, .int .i64 b, .int .i64 l, .int .i64 m, .int .i64 c]] wz (RetI n wz))
  (h4 : 4 ≤ bs.length) (hv : ¬ valB (bs.take 4) ≤ 256) :
  Calls Try.prog 77 #[.pointer (some ⟨rb, 0, none⟩), .pointer (some ⟨xb, 0, none⟩), .pointer (some ⟨tb, 0, none⟩), .pointer (some ⟨fb, 0, none⟩)] w (RetTkC f n M rb B xb bs w) := by
 have HC := Lib.hid (reader_CountB rb B bs h4 h8 hv w hR)
 have HV := Lib.hid hv
 clear hv
 go_enter Try.func77, Try.ntmps77
 go_wp2_with (go_at_call 78; refine HC.out.mono ?_; rintro e w2 ⟨rfl, hR2, hx2⟩)
 exact ⟨rfl, hx2.less (fun q _ h => .inl h), .inl ⟨6, rfl, hR2, .inr (.inl ⟨rfl, h4, HV.out⟩)⟩⟩


set_option maxHeartbeats 4000000 in
theorem take_A3
  (k f9 b l m c p : Int) (s : ByteArray) (n : Nat) (bs : List Int) (rb B xb tb fb : Nat) (w : World) (hR : RdL w rb B bs) (hX : Vs w xb (totL (.slice none 0 0) 0 z16)) (hT : Vs w tb [.int .u8 k, .int .u8 f, .int .i64 b, .int .i64 l, .int .i64 m, .int .i64 c, .int .i64 p, .string s]) (hF : Vs w fb [.int .u8 f])
    (hBx : B ≤ xb) (hne : xb ≠ rb ∧ tb ≠ rb ∧ fb ≠ rb ∧ xb ≠ tb ∧ xb ≠ fb) (h8 : B8 bs) (M : Nat) (hM : M = n * sizeK f) (hn : n ≤ 4096) (HO : ∀ wz, Calls Try.prog 32 #[.agg #[.int .u8 k, .int .u8 f, .int .i64 b, .int .i64 l, .int .i64 m, .int .i64 c]] wz (RetI n wz))
  (h4 : 4 ≤ bs.length) (hl : bs.length < 20) (hv : valB (bs.take 4) ≤ 256) :
  Calls Try.prog 77 #[.pointer (some ⟨rb, 0, none⟩), .pointer (some ⟨xb, 0, none⟩), .pointer (some ⟨tb, 0, none⟩), .pointer (some ⟨fb, 0, none⟩)] w (RetTkC f n M rb B xb bs w) := by
 obtain ⟨n1, n2, n3, n4, n5⟩ := hne
 have HC := Lib.hid (reader_Count rb B bs h4 h8 hv w hR)
 have HV := Lib.hid hv
 have HOU := Lib.hid HO
 obtain ⟨vv, hvv⟩ : ∃ z, ((valB (bs.take 4) : Nat) : Int) = z := ⟨_, rfl⟩
 rw [hvv] at HC
 have HVV := Lib.hid hvv
 clear hv HO hvv
 go_enter Try.func77, Try.ntmps77
 go_upto_region 1 with (go_at_call 78; refine HC.out.mono ?_; rintro e w2 ⟨rfl, hR2, hx2⟩; have hX2 := hX.exc (S := fun q => q = rb) n1 hx2; have hT2 := hT.exc (S := fun q => q = rb) n2 hx2; have hF2 := hF.exc (S := fun q => q = rb) n3 hx2; obtain ⟨x0, x1, x2, x3, x4⟩ := hX2.tot)
 have hX3 := hX2.totPutM vv
 have hx3 : Exc (fun q => q = xb) w2.heap.size w2 (w2.setCell ⟨xb, 1, none⟩ (.int .i64 vv)) := exc_sc (S := fun q => q = xb) (exc_of (Below.refl _ _)) (.inl rfl) 1 _
 have hR3 := hR2.exc hx3 (by omega) hBx
 have hT3 := hT2.exc (S := fun q => q = xb) (by omega) hx3
 have hF3 := hF2.exc (S := fun q => q = xb) (by omega) hx3
 have HX3 := Lib.hid ((hx2.less (T := fun q => q = rb ∨ q = xb) (fun q _ h => .inl h)).more hx3 (fun q h => .inl (.inr h)))
 clear x0 x1 x2 x3 x4 hX2 hT2 hF2 hR2 hx2 hx3
 generalize w2.setCell ⟨xb, 1, none⟩ (.int .i64 vv) = w3 at hX3 hR3 hT3 hF3 HX3 ⊢
 have HRW := Lib.hid (fun wz (hz : RdL wz rb B (bs.drop 4)) => reader_RawS rb B (bs.drop 4) 16 (by rw [List.length_drop]; omega) (by omega) wz hz)
 refine region_X (fun wz => Below w3.heap.size w3 wz) (fun wz => Below w3.heap.size w3 wz) (fun _ h => h) (fun _ _ h hb => bl_call h (Nat.le_refl _) hb) ((Below.refl _ _).drew) (n := 4) (m := 5) (f := 4) (by kernel_rfl) (by kernel_rfl) rfl ?_
 refine WpX.vD 0 (some 11) ?_ rfl rfl (by kernel_rfl) (fun _ _ _ h => h) rfl (fun wz hwz => ?_) ?_
 rotate_left
 ·go_simp; try (with_reducible rfl)
 simp only [Zp, Zq, Zr, Zs]
 refine WpX.vD 1 (some 12) ?_ rfl rfl (by kernel_rfl) (fun _ _ _ h => h) rfl (fun wz hwz => ?_) ?_
 rotate_left
 ·go_simp; try (with_reducible rfl)
 simp only [Zp, Zq, Zr, Zs]
 refine WpX.vD 2 (some 13) ?_ rfl rfl (by kernel_rfl) (fun _ _ _ h => h) rfl (fun wz hwz => ?_) ?_
 rotate_left
 ·go_simp; try (with_reducible rfl)
 simp only [Zp, Zq, Zr, Zs]
 refine WpX.dieD 3 rfl (by kernel_rfl) rfl (fun wz hS => ?_) (fun wz hS => (HRW.out wz (hR3.call hS)).mono fun e w5 h9 => ?_)
 ·go_simp; try (with_reducible rfl)
 obtain ⟨rfl, hR5, hx5⟩ := h9
 exact ⟨_, rfl, rfl, HX3.out.more ((exc_of (S := fun q => q = rb) hS).trans (hx5.mono hS.size)) (fun q h => .inl (.inl h)), .inl ⟨3, rfl, hR5, .inl ⟨rfl, by omega⟩⟩⟩

variable (hf : IsF f)
include hf


set_option maxHeartbeats 8000000 in
theorem take_A4
  (k f9 b l m c p : Int) (s : ByteArray) (n : Nat) (bs : List Int) (rb B xb tb fb : Nat) (w : World) (hR : RdL w rb B bs) (hX : Vs w xb (totL (.slice none 0 0) 0 z16)) (hT : Vs w tb [.int .u8 k, .int .u8 f, .int .i64 b, .int .i64 l, .int .i64 m, .int .i64 c, .int .i64 p, .string s]) (hF : Vs w fb [.int .u8 f])
    (hBx : B ≤ xb) (hne : xb ≠ rb ∧ tb ≠ rb ∧ fb ≠ rb ∧ xb ≠ tb ∧ xb ≠ fb) (h8 : B8 bs) (M : Nat) (hM : M = n * sizeK f) (hn : n ≤ 4096) (HO : ∀ wz, Calls Try.prog 32 #[.agg #[.int .u8 k, .int .u8 f, .int .i64 b, .int .i64 l, .int .i64 m, .int .i64 c]] wz (RetI n wz))
  (hl : 20 ≤ bs.length) (hlM : bs.length < 20 + M) (hv : valB (bs.take 4) ≤ 256) :
  Calls Try.prog 77 #[.pointer (some ⟨rb, 0, none⟩), .pointer (some ⟨xb, 0, none⟩), .pointer (some ⟨tb, 0, none⟩), .pointer (some ⟨fb, 0, none⟩)] w (RetTkC f n M rb B xb bs w) := by
 have h4 : 4 ≤ bs.length := by omega
 obtain ⟨n1, n2, n3, n4, n5⟩ := hne
 have HC := Lib.hid (reader_Count rb B bs h4 h8 hv w hR)
 have HV := Lib.hid hv
 have HOU := Lib.hid HO
 obtain ⟨vv, hvv⟩ : ∃ z, ((valB (bs.take 4) : Nat) : Int) = z := ⟨_, rfl⟩
 rw [hvv] at HC
 have HVV := Lib.hid hvv
 clear hv HO hvv
 go_enter Try.func77, Try.ntmps77
 go_upto_region 1 with (go_at_call 78; refine HC.out.mono ?_; rintro e w2 ⟨rfl, hR2, hx2⟩; have hX2 := hX.exc (S := fun q => q = rb) n1 hx2; have hT2 := hT.exc (S := fun q => q = rb) n2 hx2; have hF2 := hF.exc (S := fun q => q = rb) n3 hx2; obtain ⟨x0, x1, x2, x3, x4⟩ := hX2.tot)
 have hX3 := hX2.totPutM vv
 have hx3 : Exc (fun q => q = xb) w2.heap.size w2 (w2.setCell ⟨xb, 1, none⟩ (.int .i64 vv)) := exc_sc (S := fun q => q = xb) (exc_of (Below.refl _ _)) (.inl rfl) 1 _
 have hR3 := hR2.exc hx3 (by omega) hBx
 have hT3 := hT2.exc (S := fun q => q = xb) (by omega) hx3
 have hF3 := hF2.exc (S := fun q => q = xb) (by omega) hx3
 have HX3 := Lib.hid ((hx2.less (T := fun q => q = rb ∨ q = xb) (fun q _ h => .inl h)).more hx3 (fun q h => .inl (.inr h)))
 clear x0 x1 x2 x3 x4 hX2 hT2 hF2 hR2 hx2 hx3
 generalize w2.setCell ⟨xb, 1, none⟩ (.int .i64 vv) = w3 at hX3 hR3 hT3 hF3 HX3 ⊢
 have HRW := Lib.hid (fun wz (hz : RdL wz rb B (bs.drop 4)) => reader_Raw rb B (bs.drop 4) 16 (by rw [List.length_drop]; omega) (by omega) wz hz)
 have H16 : Hid (((bs.drop 4).take 16).length = 16) := Lib.hid (by rw [List.length_take, List.length_drop]; omega)
 obtain ⟨kb, hkb⟩ : ∃ z, ((bs.drop 4).take 16) = z := ⟨_, rfl⟩
 obtain ⟨rest, hrest⟩ : ∃ z, ((bs.drop 4).drop 16) = z := ⟨_, rfl⟩
 have HRL : Hid (rest.length = bs.length - 20) := Lib.hid (by rw [← hrest, List.length_drop, List.length_drop]; omega)
 have HB2 : Hid (B8 rest) := Lib.hid fun x hx => by
  rw [← hrest] at hx
  exact h8 x (List.mem_of_mem_drop (List.mem_of_mem_drop hx))
 rw [hkb, hrest] at HRW
 rw [hkb] at H16
 have HKB := Lib.hid hkb
 have HRE := Lib.hid hrest
 have hM9 : M ≤ 4096 * 16 := by
  rw [hM]
  exact Nat.mul_le_mul hn (by unfold sizeK; split <;> omega)
 have HMM := Lib.hid hM
 clear hkb hrest hM
 apply region_Z1 (n := 4) (m := 5) (f := 4) (fun x0 => (RjK w3 rb B (bs.drop 4) rest kb) (some x0) ) ((RjT w3 rb) none) ((RjK w3 rb B (bs.drop 4) rest kb) none) ((RjK.weak _)) (RjK.clo) ((RjK.start hR3))
 case hm => kernel_rfl
 case hB => kernel_rfl
 case hf => rfl
 case' h =>
  refine WpX.vD 0 (some 11) ?_ rfl rfl (by kernel_rfl) (fun _ _ _ h => h) rfl (fun wz hwz => ?_) ?_
  rotate_left
  ·go_simp; try (with_reducible rfl)
  simp only [Zp, Zq, Zr, Zs]
  refine WpX.vD 1 (some 12) ?_ rfl rfl (by kernel_rfl) (fun _ _ _ h => h) rfl (fun wz hwz => ?_) ?_
  rotate_left
  ·go_simp; try (with_reducible rfl)
  simp only [Zp, Zq, Zr, Zs]
  refine WpX.vD 2 (some 13) ?_ rfl rfl (by kernel_rfl) (fun _ _ _ h => h) rfl (fun wz hwz => ?_) ?_
  rotate_left
  ·go_simp; try (with_reducible rfl)
  simp only [Zp, Zq, Zr, Zs]
  refine WpX.oneD 3 (some 14) rfl rfl (by kernel_rfl) (fun pr : Option Addr × Nat => Value.slice pr.1 16 pr.2) (fun pr => (RjT w3 rb) (some pr)) (fun pr => (RjK w3 rb B (bs.drop 4) rest kb) (some pr)) (Turns.call rfl (fun _ _ h => h) (fun _ => (RjK.weak _)) (fun _ => RjK.clo) (fun wz hS => (HRW.out wz (hS.a rfl)).mono fun e w' hr => by have h9 := hS.took hr; rw [H16.out] at h9; exact h9) (fun wz hS => by go_simp; try (with_reducible rfl))) (fun pr => ?_)
  simp only [Zp, Zq, Zr, Zs]
  refine WpX.done (by kernel_rfl) (fun w4 hZ => ⟨pr, rfl, ?_⟩)
  ·exact hZ
 intro pr w4 hZ
 (try simp only [List.drop_succ_cons]); (try simp only [List.drop_zero]); (try simp only [Nat.reduceSub]); (try simp only [List.take_succ_cons]); (try simp only [List.take_zero])
 obtain ⟨hR4, hrow4⟩ := hZ.b pr rfl
 rw [H16.out] at hrow4
 have hX4 := hX3.exc (S := fun q => q = rb) n1 hZ.t
 have hT4 := hT3.exc (S := fun q => q = rb) n2 hZ.t
 have hF4 := hF3.exc (S := fun q => q = rb) n3 hZ.t
 have HX4 := Lib.hid (HX3.out.more hZ.t (fun q h => .inl (.inl h)))
 clear hX3 hT3 hF3 hR3 hZ HX3
 obtain ⟨pa, pc⟩ := pr
 dsimp only at hrow4 ⊢
 obtain ⟨gb, rfl, hrb4⟩ := own_src0 hrow4 (by omega)
 refine wpList_copyT rfl (.tmp 12) (.tmp 14) _ _ rfl (by kernel_rfl) xb 16 gb pc _ _ (by kernel_rfl) (by kernel_rfl) kb z16 H16.out z16_length hX4 hrb4 ?_
 have hX5 := hX4.copyT (k2 := kb) (by rw [H16.out, z16_length])
 have hx5 : Exc (fun q => q = xb) w4.heap.size w4 (w4.setCells xb 2 (cells8 kb)) := exc_setCells (S := fun q => q = xb) xb rfl _ 2 w4 (exc_of (Below.refl _ _))
 have hR5 := hR4.exc hx5 (by omega) hBx
 have hT5 := hT4.exc (S := fun q => q = xb) (by omega) hx5
 have hF5 := hF4.exc (S := fun q => q = xb) (by omega) hx5
 have HX5 := Lib.hid (HX4.out.more hx5 (fun q h => .inl (.inr h)))
 clear hX4 hT4 hF4 hR4 hrow4 hrb4 hx5 HX4
 generalize w4.setCells xb 2 (cells8 kb) = w5 at hX5 hR5 hT5 hF5 HX5 ⊢
 obtain ⟨SK, hSK⟩ : ∃ SK, sizeK f = SK := ⟨_, rfl⟩
 have HSZ := Lib.hid (field_Size hf)
 rw [hSK] at HSZ
 have hmul : (n : Int) * (SK : Int) = (M : Int) := by rw [HMM.out, hSK, Int.natCast_mul]
 have hwm : IntKind.i64.wrap (M : Int) = (M : Int) := IntWalk.i64_in _ (by omega)
 clear hSK
 obtain ⟨⟨T50, T51, T52, T53, T54, T55, T56, T57⟩, ⟨T58, T59, T510, T511, T512, T513, T514, T515⟩, T516⟩ := hT5.get8
 go_upto_region 3 with (go_at_call 32; refine (HOU.out _).mono ?_; rintro e w6 ⟨rfl, hb6⟩)
 have hX6 := hX5.call hb6
 have hT6 := hT5.call hb6
 have hF6 := hF5.call hb6
 have hR6 := hR5.call hb6
 have HX6 := Lib.hid (HX5.out.call hb6)
 clear hX5 hT5 hF5 hR5 hb6 HX5
 have HR2 := Lib.hid (fun wz (hz : RdL wz rb B rest) => reader_RawS rb B rest M (by rw [HRL.out]; omega) (by omega) wz hz)
 refine region_X (fun wz => Below w6.heap.size w6 wz) (fun wz => Below w6.heap.size w6 wz) (fun _ h => h) (fun _ _ h hb => bl_call h (Nat.le_refl _) hb) ((Below.refl _ _).drew) (n := 13) (m := 14) (f := 13) (by kernel_rfl) (by kernel_rfl) rfl ?_
 refine WpX.vD 0 (some 20) ?_ rfl rfl (by kernel_rfl) (fun _ _ _ h => h) rfl (fun wz hwz => ?_) ?_
 rotate_left
 ·(have hz := (hF6.call hwz).get1; obtain ⟨z0, z1, z2⟩ := hz; go_simp; try (with_reducible rfl))
 simp only [Zp, Zq, Zr, Zs]
 refine WpX.vD 1 (some 21) ?_ rfl rfl (by kernel_rfl) (fun _ _ _ h => h) rfl (fun wz hwz => ?_) ?_
 rotate_left
 ·go_simp; try (with_reducible rfl)
 simp only [Zp, Zq, Zr, Zs]
 refine WpX.vD 2 (some 22) ?_ rfl rfl (by kernel_rfl) (fun _ _ _ h => h) rfl (fun wz hwz => ?_) ?_
 rotate_left
 ·go_simp; try (with_reducible rfl)
 simp only [Zp, Zq, Zr, Zs]
 refine WpX.vD 3 (some 23) ?_ rfl rfl (by kernel_rfl) (fun _ _ _ h => h) rfl (fun wz hwz => ?_) ?_
 rotate_left
 ·(have hz := (hF6.call hwz).get1; obtain ⟨z0, z1, z2⟩ := hz; go_simp; try (with_reducible rfl))
 simp only [Zp, Zq, Zr, Zs]
 refine WpX.takeD 4 (some 24) rfl rfl (by kernel_rfl) (fun _ _ _ h => h) (.call rfl (fun wz hwz => ((HSZ.out wz).mono fun e w' ⟨he, hw⟩ => ⟨he, hw ▸ Below.refl _ _⟩)) (fun wz hwz => ?_)) ?_
 ·go_simp; try (with_reducible rfl)
 simp only [Zp, Zq, Zr, Zs]
 refine WpX.vD 5 (some 25) ?_ rfl rfl (by kernel_rfl) (fun _ _ _ h => h) rfl (fun wz hwz => ?_) ?_
 rotate_left
 ·go_simp; try (with_reducible rfl)
 simp only [Zp, Zq, Zr, Zs]
 refine WpX.vD 7 (some 27) ?_ rfl rfl (by kernel_rfl) (fun _ _ _ h => h) rfl (fun wz hwz => ?_) ?_
 rotate_left
 ·go_simp; try (with_reducible rfl)
 simp only [Zp, Zq, Zr, Zs]
 refine WpX.dieD 6 rfl (by kernel_rfl) rfl (fun wz hS => ?_) (fun wz hS => (HR2.out wz (hR6.call hS)).mono fun e w8 h9 => ?_)
 ·go_simp; try (with_reducible rfl)
 obtain ⟨rfl, hR8, hx8⟩ := h9
 exact ⟨_, rfl, rfl, HX6.out.more ((exc_of (S := fun q => q = rb) hS).trans (hx8.mono hS.size)) (fun q h => .inl (.inl h)), .inl ⟨3, rfl, hR8, .inl ⟨rfl, hlM⟩⟩⟩

set_option maxHeartbeats 8000000 in
theorem take_A5
  (k f9 b l m c p : Int) (s : ByteArray) (n : Nat) (bs : List Int) (rb B xb tb fb : Nat) (w : World) (hR : RdL w rb B bs) (hX : Vs w xb (totL (.slice none 0 0) 0 z16)) (hT : Vs w tb [.int .u8 k, .int .u8 f, .int .i64 b, .int .i64 l, .int .i64 m, .int .i64 c, .int .i64 p, .string s]) (hF : Vs w fb [.int .u8 f])
    (hBx : B ≤ xb) (hne : xb ≠ rb ∧ tb ≠ rb ∧ fb ≠ rb ∧ xb ≠ tb ∧ xb ≠ fb) (h8 : B8 bs) (M : Nat) (hM : M = n * sizeK f) (hn : n ≤ 4096) (HO : ∀ wz, Calls Try.prog 32 #[.agg #[.int .u8 k, .int .u8 f, .int .i64 b, .int .i64 l, .int .i64 m, .int .i64 c]] wz (RetI n wz))
  (hlM : 20 + M ≤ bs.length) (hv : valB (bs.take 4) ≤ 256) :
  Calls Try.prog 77 #[.pointer (some ⟨rb, 0, none⟩), .pointer (some ⟨xb, 0, none⟩), .pointer (some ⟨tb, 0, none⟩), .pointer (some ⟨fb, 0, none⟩)] w (RetTkC f n M rb B xb bs w) := by
 have h4 : 4 ≤ bs.length := by omega
 obtain ⟨n1, n2, n3, n4, n5⟩ := hne
 have HC := Lib.hid (reader_Count rb B bs h4 h8 hv w hR)
 have HV := Lib.hid hv
 have HOU := Lib.hid HO
 obtain ⟨vv, hvv⟩ : ∃ z, ((valB (bs.take 4) : Nat) : Int) = z := ⟨_, rfl⟩
 rw [hvv] at HC
 have HVV := Lib.hid hvv
 clear hv HO hvv
 go_enter Try.func77, Try.ntmps77
 go_upto_region 1 with (go_at_call 78; refine HC.out.mono ?_; rintro e w2 ⟨rfl, hR2, hx2⟩; have hX2 := hX.exc (S := fun q => q = rb) n1 hx2; have hT2 := hT.exc (S := fun q => q = rb) n2 hx2; have hF2 := hF.exc (S := fun q => q = rb) n3 hx2; obtain ⟨x0, x1, x2, x3, x4⟩ := hX2.tot)
 have hX3 := hX2.totPutM vv
 have hx3 : Exc (fun q => q = xb) w2.heap.size w2 (w2.setCell ⟨xb, 1, none⟩ (.int .i64 vv)) := exc_sc (S := fun q => q = xb) (exc_of (Below.refl _ _)) (.inl rfl) 1 _
 have hR3 := hR2.exc hx3 (by omega) hBx
 have hT3 := hT2.exc (S := fun q => q = xb) (by omega) hx3
 have hF3 := hF2.exc (S := fun q => q = xb) (by omega) hx3
 have HX3 := Lib.hid ((hx2.less (T := fun q => q = rb ∨ q = xb) (fun q _ h => .inl h)).more hx3 (fun q h => .inl (.inr h)))
 clear x0 x1 x2 x3 x4 hX2 hT2 hF2 hR2 hx2 hx3
 generalize w2.setCell ⟨xb, 1, none⟩ (.int .i64 vv) = w3 at hX3 hR3 hT3 hF3 HX3 ⊢
 have HRW := Lib.hid (fun wz (hz : RdL wz rb B (bs.drop 4)) => reader_Raw rb B (bs.drop 4) 16 (by rw [List.length_drop]; omega) (by omega) wz hz)
 have H16 : Hid (((bs.drop 4).take 16).length = 16) := Lib.hid (by rw [List.length_take, List.length_drop]; omega)
 obtain ⟨kb, hkb⟩ : ∃ z, ((bs.drop 4).take 16) = z := ⟨_, rfl⟩
 obtain ⟨rest, hrest⟩ : ∃ z, ((bs.drop 4).drop 16) = z := ⟨_, rfl⟩
 have HRL : Hid (rest.length = bs.length - 20) := Lib.hid (by rw [← hrest, List.length_drop, List.length_drop]; omega)
 have HB2 : Hid (B8 rest) := Lib.hid fun x hx => by
  rw [← hrest] at hx
  exact h8 x (List.mem_of_mem_drop (List.mem_of_mem_drop hx))
 rw [hkb, hrest] at HRW
 rw [hkb] at H16
 have HKB := Lib.hid hkb
 have HRE := Lib.hid hrest
 have hM9 : M ≤ 4096 * 16 := by
  rw [hM]
  exact Nat.mul_le_mul hn (by unfold sizeK; split <;> omega)
 have HMM := Lib.hid hM
 clear hkb hrest hM
 apply region_Z1 (n := 4) (m := 5) (f := 4) (fun x0 => (RjK w3 rb B (bs.drop 4) rest kb) (some x0) ) ((RjT w3 rb) none) ((RjK w3 rb B (bs.drop 4) rest kb) none) ((RjK.weak _)) (RjK.clo) ((RjK.start hR3))
 case hm => kernel_rfl
 case hB => kernel_rfl
 case hf => rfl
 case' h =>
  refine WpX.vD 0 (some 11) ?_ rfl rfl (by kernel_rfl) (fun _ _ _ h => h) rfl (fun wz hwz => ?_) ?_
  rotate_left
  ·go_simp; try (with_reducible rfl)
  simp only [Zp, Zq, Zr, Zs]
  refine WpX.vD 1 (some 12) ?_ rfl rfl (by kernel_rfl) (fun _ _ _ h => h) rfl (fun wz hwz => ?_) ?_
  rotate_left
  ·go_simp; try (with_reducible rfl)
  simp only [Zp, Zq, Zr, Zs]
  refine WpX.vD 2 (some 13) ?_ rfl rfl (by kernel_rfl) (fun _ _ _ h => h) rfl (fun wz hwz => ?_) ?_
  rotate_left
  ·go_simp; try (with_reducible rfl)
  simp only [Zp, Zq, Zr, Zs]
  refine WpX.oneD 3 (some 14) rfl rfl (by kernel_rfl) (fun pr : Option Addr × Nat => Value.slice pr.1 16 pr.2) (fun pr => (RjT w3 rb) (some pr)) (fun pr => (RjK w3 rb B (bs.drop 4) rest kb) (some pr)) (Turns.call rfl (fun _ _ h => h) (fun _ => (RjK.weak _)) (fun _ => RjK.clo) (fun wz hS => (HRW.out wz (hS.a rfl)).mono fun e w' hr => by have h9 := hS.took hr; rw [H16.out] at h9; exact h9) (fun wz hS => by go_simp; try (with_reducible rfl))) (fun pr => ?_)
  simp only [Zp, Zq, Zr, Zs]
  refine WpX.done (by kernel_rfl) (fun w4 hZ => ⟨pr, rfl, ?_⟩)
  ·exact hZ
 intro pr w4 hZ
 (try simp only [List.drop_succ_cons]); (try simp only [List.drop_zero]); (try simp only [Nat.reduceSub]); (try simp only [List.take_succ_cons]); (try simp only [List.take_zero])
 obtain ⟨hR4, hrow4⟩ := hZ.b pr rfl
 rw [H16.out] at hrow4
 have hX4 := hX3.exc (S := fun q => q = rb) n1 hZ.t
 have hT4 := hT3.exc (S := fun q => q = rb) n2 hZ.t
 have hF4 := hF3.exc (S := fun q => q = rb) n3 hZ.t
 have HX4 := Lib.hid (HX3.out.more hZ.t (fun q h => .inl (.inl h)))
 clear hX3 hT3 hF3 hR3 hZ HX3
 obtain ⟨pa, pc⟩ := pr
 dsimp only at hrow4 ⊢
 obtain ⟨gb, rfl, hrb4⟩ := own_src0 hrow4 (by omega)
 refine wpList_copyT rfl (.tmp 12) (.tmp 14) _ _ rfl (by kernel_rfl) xb 16 gb pc _ _ (by kernel_rfl) (by kernel_rfl) kb z16 H16.out z16_length hX4 hrb4 ?_
 have hX5 := hX4.copyT (k2 := kb) (by rw [H16.out, z16_length])
 have hx5 : Exc (fun q => q = xb) w4.heap.size w4 (w4.setCells xb 2 (cells8 kb)) := exc_setCells (S := fun q => q = xb) xb rfl _ 2 w4 (exc_of (Below.refl _ _))
 have hR5 := hR4.exc hx5 (by omega) hBx
 have hT5 := hT4.exc (S := fun q => q = xb) (by omega) hx5
 have hF5 := hF4.exc (S := fun q => q = xb) (by omega) hx5
 have HX5 := Lib.hid (HX4.out.more hx5 (fun q h => .inl (.inr h)))
 clear hX4 hT4 hF4 hR4 hrow4 hrb4 hx5 HX4
 generalize w4.setCells xb 2 (cells8 kb) = w5 at hX5 hR5 hT5 hF5 HX5 ⊢
 obtain ⟨SK, hSK⟩ : ∃ SK, sizeK f = SK := ⟨_, rfl⟩
 have HSZ := Lib.hid (field_Size hf)
 rw [hSK] at HSZ
 have hmul : (n : Int) * (SK : Int) = (M : Int) := by rw [HMM.out, hSK, Int.natCast_mul]
 have hwm : IntKind.i64.wrap (M : Int) = (M : Int) := IntWalk.i64_in _ (by omega)
 clear hSK
 obtain ⟨⟨T50, T51, T52, T53, T54, T55, T56, T57⟩, ⟨T58, T59, T510, T511, T512, T513, T514, T515⟩, T516⟩ := hT5.get8
 go_upto_region 3 with (go_at_call 32; refine (HOU.out _).mono ?_; rintro e w6 ⟨rfl, hb6⟩)
 have hX6 := hX5.call hb6
 have hT6 := hT5.call hb6
 have hF6 := hF5.call hb6
 have hR6 := hR5.call hb6
 have HX6 := Lib.hid (HX5.out.call hb6)
 clear hX5 hT5 hF5 hR5 hb6 HX5
 have HR2 := Lib.hid (fun wz (hz : RdL wz rb B rest) => reader_Raw rb B rest M (by rw [HRL.out]; omega) (by omega) wz hz)
 have HML : Hid ((rest.take M).length = M) := Lib.hid (by rw [List.length_take, HRL.out]; omega)
 have HTV := Lib.hid (fun (p : Option Addr × Nat) (B0 : Nat) wz (ho : wz.ownsRow B0 5 1 (.slice p.1 M p.2) M (cells8 (rest.take M))) => field_TakeVec hf (rest.take M) n M HML.out HMM.out hn (fun x hx => HB2.out x (List.mem_of_mem_take hx)) p.1 p.2 ⟨(own_cap ho).1, (own_cap ho).2.1⟩ wz (fun hp => by
  obtain ⟨b, e1, e2, e3⟩ := (own_cap ho).2.2 hp
  exact ⟨b, 0, e1, e2, e3⟩))
 obtain ⟨vb, hvb⟩ : ∃ z, rest.take M = z := ⟨_, rfl⟩
 obtain ⟨rest2, hre2⟩ : ∃ z, rest.drop M = z := ⟨_, rfl⟩
 rw [hvb, hre2] at HR2
 rw [hvb] at HML HTV
 have HVB := Lib.hid hvb
 have HR9 := Lib.hid hre2
 clear hvb hre2
 apply region_Z2 (n := 13) (m := 14) (f := 13) (fun x0 x1 => (RkK w6 rb B rest rest2 vb f n) (some x0) (some x1) ) ((RkT w6 rb) none none) ((RkK w6 rb B rest rest2 vb f n) none none) ((RkK.weak _ _)) (RkK.clo) ((RkK.start hR6))
 case hm => kernel_rfl
 case hB => kernel_rfl
 case hf => rfl
 case' h =>
  refine WpX.vD 0 (some 20) ?_ rfl rfl (by kernel_rfl) (fun _ _ _ h => h) rfl (fun wz hwz => ?_) ?_
  rotate_left
  ·(have hz := (hF6.exc (S := fun q => q = rb) n3 hwz).get1; obtain ⟨z0, z1, z2⟩ := hz; go_simp; try (with_reducible rfl))
  simp only [Zp, Zq, Zr, Zs]
  refine WpX.vD 1 (some 21) ?_ rfl rfl (by kernel_rfl) (fun _ _ _ h => h) rfl (fun wz hwz => ?_) ?_
  rotate_left
  ·go_simp; try (with_reducible rfl)
  simp only [Zp, Zq, Zr, Zs]
  refine WpX.vD 2 (some 22) ?_ rfl rfl (by kernel_rfl) (fun _ _ _ h => h) rfl (fun wz hwz => ?_) ?_
  rotate_left
  ·go_simp; try (with_reducible rfl)
  simp only [Zp, Zq, Zr, Zs]
  refine WpX.vD 3 (some 23) ?_ rfl rfl (by kernel_rfl) (fun _ _ _ h => h) rfl (fun wz hwz => ?_) ?_
  rotate_left
  ·(have hz := (hF6.exc (S := fun q => q = rb) n3 hwz).get1; obtain ⟨z0, z1, z2⟩ := hz; go_simp; try (with_reducible rfl))
  simp only [Zp, Zq, Zr, Zs]
  refine WpX.takeD 4 (some 24) rfl rfl (by kernel_rfl) (fun _ _ _ h => h) (.call rfl (fun wz hwz => ((HSZ.out wz).mono fun e w' ⟨he, hw⟩ => ⟨he, hw ▸ Below.refl _ _⟩)) (fun wz hwz => ?_)) ?_
  ·go_simp; try (with_reducible rfl)
  simp only [Zp, Zq, Zr, Zs]
  refine WpX.vD 5 (some 25) ?_ rfl rfl (by kernel_rfl) (fun _ _ _ h => h) rfl (fun wz hwz => ?_) ?_
  rotate_left
  ·go_simp; try (with_reducible rfl)
  simp only [Zp, Zq, Zr, Zs]
  refine WpX.vD 7 (some 27) ?_ rfl rfl (by kernel_rfl) (fun _ _ _ h => h) rfl (fun wz hwz => ?_) ?_
  rotate_left
  ·go_simp; try (with_reducible rfl)
  simp only [Zp, Zq, Zr, Zs]
  refine WpX.oneD 6 (some 26) rfl rfl (by kernel_rfl) (fun pr : Option Addr × Nat => Value.slice pr.1 M pr.2) (fun pr => (RkT w6 rb) (some pr) none) (fun pr => (RkK w6 rb B rest rest2 vb f n) (some pr) none) (Turns.call rfl (fun _ _ h => h) (fun _ => (RkK.weak _ _)) (fun _ => RkK.clo) (fun wz hS => (HR2.out wz (hS.k.a rfl)).mono fun e w' hr => by have h9 := hS.took hr; rw [HML.out] at h9; exact h9) (fun wz hS => by go_simp; try (with_reducible rfl))) (fun pr => ?_)
  simp only [Zp, Zq, Zr, Zs]
  refine WpX.oneD 8 (some 28) rfl rfl (by kernel_rfl) (fun qt : TvQ => Value.tuple #[.slice qt.1 qt.2.1 qt.2.2.1, .int .i64 qt.2.2.2]) (fun qt => (RkT w6 rb) (some pr) (some qt)) (fun qt => (RkK w6 rb B rest rest2 vb f n) (some pr) (some qt)) (Turns.call rfl (fun _ _ h => h) (fun _ => (RkK.weak _ _)) (fun _ => RkK.clo) (fun wz hS => (HTV.out pr _ wz (by have h9 := (hS.k.b pr rfl).2; rw [HML.out] at h9; exact h9)).mono fun e w' hr => hS.vec hr) (fun wz hS => by go_simp; try (with_reducible rfl))) (fun qt => ?_)
  simp only [Zp, Zq, Zr, Zs]
  refine WpX.vD 9 (some 19) ?_ rfl rfl (by kernel_rfl) (fun _ _ _ h => h) rfl (fun wz hwz => ?_) ?_
  rotate_left
  ·go_simp; try (with_reducible rfl)
  simp only [Zp, Zq, Zr, Zs]
  refine WpX.vD 10 (some 29) ?_ rfl rfl (by kernel_rfl) (fun _ _ _ h => h) rfl (fun wz hwz => ?_) ?_
  rotate_left
  ·go_simp; try (with_reducible rfl)
  simp only [Zp, Zq, Zr, Zs]
  refine WpX.vD 11 (some 30) ?_ rfl rfl (by kernel_rfl) (fun _ _ _ h => h) rfl (fun wz hwz => ?_) ?_
  rotate_left
  ·go_simp; try (with_reducible rfl)
  simp only [Zp, Zq, Zr, Zs]
  refine WpX.vD 12 (some 6) ?_ rfl rfl (by kernel_rfl) (fun _ _ _ h => h) rfl (fun wz hwz => ?_) ?_
  rotate_left
  ·go_simp; try (with_reducible rfl)
  simp only [Zp, Zq, Zr, Zs]
  refine WpX.done (by kernel_rfl) (fun w7 hZ => ⟨pr, qt, rfl, ?_⟩)
  ·exact hZ
 intro pr qt w7 hZ
 (try simp only [List.drop_succ_cons]); (try simp only [List.drop_zero]); (try simp only [Nat.reduceSub]); (try simp only [List.take_succ_cons]); (try simp only [List.take_zero])
 have hR7 := (hZ.k.b pr rfl).1
 have hq7 := hZ.q qt rfl
 have hX7 := hX6.exc (S := fun q => q = rb) n1 hZ.k.t
 have HX7 := Lib.hid (HX6.out.more hZ.k.t (fun q h => .inl (.inl h)))
 have hxlt := hX6.lt
 have hs6 := HX6.out.size
 clear hZ hX6 hT6 hF6 hR6 HX6
 obtain ⟨qa, qn, qc, qe⟩ := qt
 dsimp only at hq7 ⊢
 rcases hq7 with ⟨S, e1, e2, hSl, hSv, hown⟩ | ⟨e1, e2, e3, e4, hno⟩
 ·dsimp only at e1 e2 hown
  subst e1 e2
  have HF0 := Lib.hid (reader_Fail0 rb B rest2 w7 hR7)
  obtain ⟨x0, x1, x2, x3, x4⟩ := hX7.tot
  go_wp2_with (go_at_call 82; refine HF0.out.mono ?_; rintro e w8 ⟨rfl, rfl⟩)
  have hX8 : Vs (w8.setCell ⟨xb, 0, none⟩ (.slice qa qn qc)) xb (totL (.slice qa qn qc) vv kb) := hX7.put 0 (Nat.zero_lt_succ _) _
  have hx8 : Exc (fun q => q = xb) w8.heap.size w8 (w8.setCell ⟨xb, 0, none⟩ (.slice qa qn qc)) := exc_sc (S := fun q => q = xb) (exc_of (Below.refl _ _)) (.inl rfl) 0 _
  have hR8 := hR7.exc hx8 (by omega) hBx
  refine end_none Try.results77 rfl ⟨HX7.out.more hx8 (fun q h => .inl (.inr h)), .inr ⟨rfl, ?_, hlM, HV.out, qa, qc, S, ?_, ?_, hSl, ?_⟩⟩
  ·rw [HRE.out, HR9.out]
   exact hR8
  ·rw [HKB.out, HVV.out]
   exact hX8
  ·exact own_lower (own_other hown hx8 (fun g hg e => by
    have h1 := (hown.lt g hg).1
    omega)) hs6
  ·rw [HRE.out, HVB.out]
   exact hSv
 ·dsimp only at e1 e2 e3 e4
  subst e1 e2 e3 e4
  have HF7 := Lib.hid (reader_Fail rb B rest2 7 rfl w7 hR7)
  have HNO := Lib.hid hno
  clear hno
  go_wp2_with (go_at_call 82; refine HF7.out.mono ?_; rintro e w8 ⟨rfl, rfl⟩)
  refine ⟨rfl, HX7.out, .inl ⟨7, rfl, ⟨_, hR7⟩, .inr (.inr ⟨rfl, hlM, ?_⟩)⟩⟩
  rw [HRE.out, HVB.out]
  exact HNO.out

theorem take_Clo
  (k f9 b l m c p : Int) (s : ByteArray) (n : Nat) (bs : List Int) (rb B xb tb fb : Nat) (w : World) (hR : RdL w rb B bs) (hX : Vs w xb (totL (.slice none 0 0) 0 z16)) (hT : Vs w tb [.int .u8 k, .int .u8 f, .int .i64 b, .int .i64 l, .int .i64 m, .int .i64 c, .int .i64 p, .string s]) (hF : Vs w fb [.int .u8 f])
    (hBx : B ≤ xb) (hne : xb ≠ rb ∧ tb ≠ rb ∧ fb ≠ rb ∧ xb ≠ tb ∧ xb ≠ fb) (h8 : B8 bs) (M : Nat) (hM : M = n * sizeK f) (hn : n ≤ 4096) (HO : ∀ wz, Calls Try.prog 32 #[.agg #[.int .u8 k, .int .u8 f, .int .i64 b, .int .i64 l, .int .i64 m, .int .i64 c]] wz (RetI n wz))
  :
  Calls Try.prog 77 #[.pointer (some ⟨rb, 0, none⟩), .pointer (some ⟨xb, 0, none⟩), .pointer (some ⟨tb, 0, none⟩), .pointer (some ⟨fb, 0, none⟩)] w (RetTkC f n M rb B xb bs w) := by
 by_cases h4 : bs.length < 4
 ·exact take_A1 k f9 b l m c p s n bs rb B xb tb fb w hR hX hT hF hBx hne h8 M hM hn HO h4
 ·by_cases hv : valB (bs.take 4) ≤ 256
  ·by_cases hl : bs.length < 20
   ·exact take_A3 k f9 b l m c p s n bs rb B xb tb fb w hR hX hT hF hBx hne h8 M hM hn HO (by omega) hl hv
   ·by_cases hlM : bs.length < 20 + M
    ·exact take_A4 hf k f9 b l m c p s n bs rb B xb tb fb w hR hX hT hF hBx hne h8 M hM hn HO (by omega) hlM hv
    ·exact take_A5 hf k f9 b l m c p s n bs rb B xb tb fb w hR hX hT hF hBx hne h8 M hM hn HO (by omega) hv
  ·exact take_A2 k f9 b l m c p s n bs rb B xb tb fb w hR hX hT hF hBx hne h8 M hM hn HO (by omega) hv
end

end Go.Proofs.Ytbakkmfjamcbfaa

namespace Go.Proofs.Ytbakkmfjamcbfaa
open Go.RowKit Fm
set_option linter.unusedVariables false
set_option maxRecDepth 100000

def RetTake (f n M : Nat) (bs : List Int) (w : World) (e : Ending) (w' : World) : Prop :=
 (∃ c, c ≠ 0 ∧ RetT0 c w e w' ∧ (TkErr f n M bs c ∨ (c = 27 ∧ 20 + M < bs.length))) ∨
 (∃ (A : Option Addr) (c : Nat) (S : KL f), e = .returned (.tuple #[.agg (totL (.slice A n c) (valB (bs.take 4) : Nat) ((bs.drop 4).take 16)).toArray, .int .i64 0]) ∧ w'.ownsRow w.heap.size 99 2 (.slice A n c) n (cellsE (esK S)) ∧ S.length = n ∧ vecB S = ((bs.drop 4).drop 16).take M ∧ bs.length = 20 + M ∧ valB (bs.take 4) ≤ 256 ∧ Below w.heap.size w w')

theorem ent_Take (args : Array Value) (wz : World) : (callFunc 77 args).run Try.prog wz = .ok (.enter 77 args) wz := by kernel_rfl


section
variable {f : Nat} (hf : IsF f)
include hf

set_option maxHeartbeats 4000000 in
theorem total_Take (k b l m c p : Int) (s : ByteArray) (n : Nat) (hn : n ≤ 4096) (M : Nat) (hM : M = n * sizeK f) (bs : List Int) (h8 : B8 bs)
  (HC : ∀ wz, Calls Try.prog 43 #[.agg #[.int .u8 k, .int .u8 f, .int .i64 b, .int .i64 l, .int .i64 m, .int .i64 c, .int .i64 p, .string s]] wz (RetC 0 wz))
  (HO : ∀ wz, Calls Try.prog 32 #[.agg #[.int .u8 k, .int .u8 f, .int .i64 b, .int .i64 l, .int .i64 m, .int .i64 c]] wz (RetI n wz))
  (A : Option Addr) (cc : Nat) (w : World) (hcc : bs.length ≤ cc ∧ cc ≤ 9223372036854775807) (hrow : 0 < bs.length → ∃ b o, A = some ⟨b, o, none⟩ ∧ b < w.heap.size ∧ RowB w b o bs) :
  Calls Try.prog 42 #[.agg #[.int .u8 k, .int .u8 f, .int .i64 b, .int .i64 l, .int .i64 m, .int .i64 c, .int .i64 p, .string s], .slice A bs.length cc] w (RetTake f n M bs w) := by
 have HC := Lib.hid HC
 have HO := Lib.hid HO
 have H8 := Lib.hid h8
 have HM := Lib.hid hM
 have HCC := Lib.hid hcc
 have HROW := Lib.hid hrow
 have hmf : ∀ (fn : Fn) (first cap : Array Value) (w : World), (Instr.makeFunc fn first cap).run Try.prog w = .ok (.func fn first cap) w := fun _ _ _ _ => rfl
 obtain ⟨ln, hln⟩ : ∃ z, bs.length = z := ⟨_, rfl⟩
 have HLN := Lib.hid hln
 rw [hln]
 have hF0 : (0 : Int) ≤ (f : Int) ∧ (f : Int) ≤ 2 := by rcases hf.or with rfl | rfl <;> omega
 clear h8 hM hcc hrow hln
 go_enter Try.func42, Try.ntmps42
 go_upto_region 1 with fail
 have hT := (Vs.new w [.int .u8 k, .int .u8 f, .int .i64 b, .int .i64 l, .int .i64 m, .int .i64 c, .int .i64 p, .string s] #[.int .u8 k, .int .u8 f, .int .i64 b, .int .i64 l, .int .i64 m, .int .i64 c, .int .i64 p, .string s] 62 rfl).alloc (.cells #[.slice none 0 0, .int .i64 0, .int .u8 0, .int .u8 0, .int .u8 0, .int .u8 0, .int .u8 0, .int .u8 0, .int .u8 0, .int .u8 0, .int .u8 0, .int .u8 0, .int .u8 0, .int .u8 0, .int .u8 0, .int .u8 0, .int .u8 0, .int .u8 0] 76)
 have hr := Vs.new (w.alloc (.cells #[.int .u8 k, .int .u8 f, .int .i64 b, .int .i64 l, .int .i64 m, .int .i64 c, .int .i64 p, .string s] 62)) (totL (.slice none 0 0) 0 z16) (#[.slice none 0 0, .int .i64 0, .int .u8 0, .int .u8 0, .int .u8 0, .int .u8 0, .int .u8 0, .int .u8 0, .int .u8 0, .int .u8 0, .int .u8 0, .int .u8 0, .int .u8 0, .int .u8 0, .int .u8 0, .int .u8 0, .int .u8 0, .int .u8 0]) 76 rfl
 simp only [World.size_alloc] at hr
 have hb00 : Below w.heap.size w ((w.alloc (.cells #[.int .u8 k, .int .u8 f, .int .i64 b, .int .i64 l, .int .i64 m, .int .i64 c, .int .i64 p, .string s] 62)).alloc (.cells #[.slice none 0 0, .int .i64 0, .int .u8 0, .int .u8 0, .int .u8 0, .int .u8 0, .int .u8 0, .int .u8 0, .int .u8 0, .int .u8 0, .int .u8 0, .int .u8 0, .int .u8 0, .int .u8 0, .int .u8 0, .int .u8 0, .int .u8 0, .int .u8 0] 76)) := by repeat (first | exact bA | with_reducible assumption | apply bB)
 have hszn : w.heap.size + 2 ≤ ((w.alloc (.cells #[.int .u8 k, .int .u8 f, .int .i64 b, .int .i64 l, .int .i64 m, .int .i64 c, .int .i64 p, .string s] 62)).alloc (.cells #[.slice none 0 0, .int .i64 0, .int .u8 0, .int .u8 0, .int .u8 0, .int .u8 0, .int .u8 0, .int .u8 0, .int .u8 0, .int .u8 0, .int .u8 0, .int .u8 0, .int .u8 0, .int .u8 0, .int .u8 0, .int .u8 0, .int .u8 0, .int .u8 0] 76)).heap.size := by simp only [World.size_alloc]; omega
 generalize ((w.alloc (.cells #[.int .u8 k, .int .u8 f, .int .i64 b, .int .i64 l, .int .i64 m, .int .i64 c, .int .i64 p, .string s] 62)).alloc (.cells #[.slice none 0 0, .int .i64 0, .int .u8 0, .int .u8 0, .int .u8 0, .int .u8 0, .int .u8 0, .int .u8 0, .int .u8 0, .int .u8 0, .int .u8 0, .int .u8 0, .int .u8 0, .int .u8 0, .int .u8 0, .int .u8 0, .int .u8 0, .int .u8 0] 76)) = w1 at hT hr hb00 hszn ⊢
 obtain ⟨⟨T0, T1, T2, T3, T4, T5, T6, T7⟩, ⟨T8, T9, T10, T11, T12, T13, T14, T15⟩, T16⟩ := hT.get8
 go_upto_region 4 with (first
  | (go_at_call 43; refine (HC.out _).mono ?_; rintro e w2 ⟨rfl, hb2⟩; replace hb00 := bl_call hb00 (Nat.le_refl _) hb2; replace hT := hT.call hb2; replace hr := hr.call hb2; clear T0 T1 T2 T3 T4 T5 T6 T7 T8 T9 T10 T11 T12 T13 T14 T15 T16; clear hb2; obtain ⟨⟨T0, T1, T2, T3, T4, T5, T6, T7⟩, ⟨T8, T9, T10, T11, T12, T13, T14, T15⟩, T16⟩ := hT.get8))
 have hrl := hr.lt
 go_upto_region 5 with fail
 have hX := Vs.new w2 (totL (.slice none 0 0) 0 z16) (#[.slice none 0 0, .int .i64 0, .int .u8 0, .int .u8 0, .int .u8 0, .int .u8 0, .int .u8 0, .int .u8 0, .int .u8 0, .int .u8 0, .int .u8 0, .int .u8 0, .int .u8 0, .int .u8 0, .int .u8 0, .int .u8 0, .int .u8 0, .int .u8 0]) 76 rfl
 have hbA : Below w2.heap.size w2 (w2.alloc (.cells #[.slice none 0 0, .int .i64 0, .int .u8 0, .int .u8 0, .int .u8 0, .int .u8 0, .int .u8 0, .int .u8 0, .int .u8 0, .int .u8 0, .int .u8 0, .int .u8 0, .int .u8 0, .int .u8 0, .int .u8 0, .int .u8 0, .int .u8 0, .int .u8 0] 76)) := by repeat (first | exact bA | with_reducible assumption | apply bB)
 replace hb00 := bl_call hb00 (Nat.le_refl _) hbA
 replace hT := hT.call hbA
 replace hr := hr.call hbA
 clear hbA
 generalize w2.alloc (.cells #[.slice none 0 0, .int .i64 0, .int .u8 0, .int .u8 0, .int .u8 0, .int .u8 0, .int .u8 0, .int .u8 0, .int .u8 0, .int .u8 0, .int .u8 0, .int .u8 0, .int .u8 0, .int .u8 0, .int .u8 0, .int .u8 0, .int .u8 0, .int .u8 0] 76) = w3 at hb00 hT hr hX ⊢
 have hx3 := hX.lt
 clear T0 T1 T2 T3 T4 T5 T6 T7 T8 T9 T10 T11 T12 T13 T14 T15 T16
 obtain ⟨⟨T0, T1, T2, T3, T4, T5, T6, T7⟩, ⟨T8, T9, T10, T11, T12, T13, T14, T15⟩, T16⟩ := hT.get8
 go_upto_region 6 with fail
 have hF := Vs.new w3 [.int .u8 f] #[.int .u8 f] 58 rfl
 have hbA : Below w3.heap.size w3 (w3.alloc (.cells #[.int .u8 f] 58)) := by repeat (first | exact bA | with_reducible assumption | apply bB)
 replace hb00 := bl_call hb00 (Nat.le_refl _) hbA
 replace hT := hT.call hbA
 replace hr := hr.call hbA
 replace hX := hX.call hbA
 clear hbA
 generalize w3.alloc (.cells #[.int .u8 f] 58) = w4 at hb00 hT hr hX hF ⊢
 have hxl := hX.lt
 obtain ⟨xb, hxb⟩ : ∃ z, w2.heap.size = z := ⟨_, rfl⟩
 obtain ⟨fb, hfb⟩ : ∃ z, w3.heap.size = z := ⟨_, rfl⟩
 have hxf : xb < fb := by rw [← hxb, ← hfb]; exact hx3
 rw [hxb] at hX hrl hxl
 rw [hfb] at hF
 simp only [hxb, hfb]
 clear hxb hfb
 clear hx3
 clear T0 T1 T2 T3 T4 T5 T6 T7 T8 T9 T10 T11 T12 T13 T14 T15 T16
 have hs4 := hb00.size
 have hrow4 : 0 < bs.length → ∃ b o, A = some ⟨b, o, none⟩ ∧ b < w.heap.size ∧ RowB w4 b o bs := fun hp => by
  obtain ⟨b, o, e1, e2, e3⟩ := HROW.out hp
  exact ⟨b, o, e1, e2, e3.belowB hb00 e2⟩
 have hRD := pack_Read (fun q => q = xb) (fun _ cd _ => TkErr f n M bs cd) (fun B0 rest wz => rest = ((bs.drop 4).drop 16).drop M ∧ TkRes f n M xb B0 bs wz) 77 #[.pointer (some ⟨xb, 0, none⟩), .pointer (some ⟨w.heap.size, 0, none⟩), .pointer (some ⟨fb, 0, none⟩)] A bs cc w4 w.heap.size hs4 ent_Take HCC.out hrow4
  (fun q h => by subst h; exact hxl) (fun _ _ _ _ _ h _ => h)
  (fun B0 r wa wb hB h hx => by
   obtain ⟨h1, h2, h3, A1, c1, S1, h4, h5, h6, h7⟩ := h
   exact ⟨h1, h2, h3, A1, c1, S1, h4.exc (fun h9 => by omega) hx, own_other h5 hx (fun g hg h9 => by
    have := (h5.lt g hg).1
    omega), h6, h7⟩)
  (fun wz rb hrb hbz hRz => (take_Clo hf k 0 b l m c p s n bs rb w.heap.size xb w.heap.size fb wz hRz (hX.call hbz) (hT.call hbz) (hF.call hbz) (by omega) (by have := hF.lt; omega) H8.out M HM.out hn HO.out).mono fun e w' h => by
   obtain ⟨h1, h2⟩ := h
   refine ⟨h1, ?_⟩
   rcases h2 with ⟨cd, e1, e2, e3⟩ | ⟨e1, e2, e3⟩
   ·exact .inl ⟨cd, e1, e2, e3⟩
   ·exact .inr ⟨e1, _, e2, rfl, e3⟩)
 rw [HLN.out] at hRD
 have HRD := Lib.hid hRD
 clear hRD hrow4
 go_upto_region 7 with (go_at_call 76; refine HRD.out.mono ?_; rintro e w5 ⟨cd, B0, rfl, hB0, hx5, h5⟩)
 have hr5 := hr.exc (S := fun q => q = xb) (by omega) hx5
 have HB5 : Hid (Below w.heap.size w w5) := Lib.hid (hb00.trans (Exc.below (hx5.mono hs4) (fun q hq h => by omega)))
 clear hr hT hX hF hx5 hb00 HRD
 by_cases h0 : cd = 0
 ·subst h0
  have h6 : ∃ rest : List Int, (rest = ((bs.drop 4).drop 16).drop M ∧ TkRes f n M xb B0 bs w5) ∧ rest.length = 0 := by
   rcases h5 with h | ⟨rest, h1, h2⟩
   ·exfalso
    rcases h with ⟨h, _⟩ | ⟨h, _⟩ | ⟨h, _⟩ <;> omega
   ·refine ⟨rest, h1, ?_⟩
    by_cases h3 : rest.length = 0
    ·exact h3
    ·rw [if_neg h3] at h2
     omega
  obtain ⟨rest, ⟨hre, hl1, hv1, A1, c1, S, hX5, hown, hSl, hSv⟩, hr0⟩ := h6
  rw [hre, List.length_drop, List.length_drop, List.length_drop] at hr0
  have HL0 : Hid (bs.length = 20 + M) := Lib.hid (by omega)
  have hkl : ((bs.drop 4).take 16).length = 16 := by
   rw [List.length_take, List.length_drop]
   omega
  have HSV := Lib.hid hSv
  have HV1 := Lib.hid hv1
  obtain ⟨kk, hkk⟩ : ∃ z, (bs.drop 4).take 16 = z := ⟨_, rfl⟩
  obtain ⟨vv, hvv⟩ : ∃ z, ((valB (bs.take 4) : Nat) : Int) = z := ⟨_, rfl⟩
  rw [hkk] at hX5 hkl
  rw [hvv] at hX5
  have HKK := Lib.hid hkk
  have HVV := Lib.hid hvv
  have HKL := Lib.hid hkl
  clear hre hr0 hl1 hv1 hSv hkk hvv hkl h5
  have hst := hr5.storeT (k := kk) (v := .slice A1 n c1) (m := vv) z16_length HKL.out rfl
  have HR := Lib.hid (hr5.setT (k := kk) (v := .slice A1 n c1) (m := vv) z16_length HKL.out)
  have HB := Lib.hid (bl_setCells HB5.out (b := w.heap.size + 1) (by omega) 0 (totL (.slice A1 n c1) vv kk))
  have HOW := Lib.hid (own_lower (B' := w.heap.size) (own_other hown (exc_setCells (S := fun q => q = w.heap.size + 1) (w.heap.size + 1) rfl (totL (.slice A1 n c1) vv kk) 0 w5 (exc_of (Below.refl _ _))) (fun g hg h => by
   have := (hown.lt g hg).1
   omega)) (by omega))
  clear hr5 hown
  go_upto_region 9 with fail
  refine wp_region_lit ?_
  refine wpList_valD (some 26) rfl rfl (exec_load rfl (by kernel_rfl) (hX5.loadT HKL.out)) ?_
  simp only [Zp, Zq, Zr, Zs]
  refine wpList_skipD rfl rfl (exec_store rfl (by kernel_rfl) (by kernel_rfl) hst) ?_
  refine wpList_valD (some 5) rfl rfl (by (go_simp; first | with_reducible rfl | exact ⟨rfl, rfl⟩ | (trace_state; fail))) ?_
  simp only [Zp, Zq, Zr, Zs]
  clear hst hX5
  go_upto_region 99 with fail
  refine bodyPost_ret (results_totalE (b := w.heap.size + 1) HR.out HKL.out rfl rfl) rfl (.inr ⟨A1, c1, S, ?_, HOW.out, hSl, HSV.out, HL0.out, HV1.out, HB.out⟩)
  rw [HKK.out, HVV.out]
  rfl
 ·have HE : Hid (TkErr f n M bs cd ∨ (cd = 27 ∧ 20 + M < bs.length)) := Lib.hid (by
   rcases h5 with h | ⟨rest, ⟨h1, h3, _⟩, h2⟩
   ·exact .inl h
   ·right
    by_cases h4 : rest.length = 0
    ·rw [if_pos h4] at h2
     exact absurd h2 h0
    ·rw [if_neg h4] at h2
     rw [h1, List.length_drop, List.length_drop, List.length_drop] at h4
     exact ⟨h2, by omega⟩)
  have HN := Lib.hid h0
  have hn1 : (cd != 0) = true := by simpa using h0
  clear h0 h5
  have hr := hr5
  clear hr5
  have hst := hr.storeT (k := z16) (v := .slice none 0 0) (m := 0) z16_length z16_length rfl
  have HR := Lib.hid (hr.setT (k := z16) (v := .slice none 0 0) (m := 0) z16_length z16_length)
  have HB := Lib.hid (bl_setCells HB5.out (b := w.heap.size + 1) (by omega) 0 (totL (.slice none 0 0) 0 z16))
  clear hr
  go_upto_region 8 with fail
  refine wp_region_lit ?_
  refine wpList_valD (some 24) rfl rfl (exec_build rfl (by kernel_rfl) (build_total0 _)) ?_
  simp only [Zp, Zq, Zr, Zs]
  refine wpList_valD (some 25) rfl rfl (by (go_simp; first | with_reducible rfl | exact ⟨rfl, rfl⟩ | (trace_state; fail))) ?_
  simp only [Zp, Zq, Zr, Zs]
  refine wpList_skipD rfl rfl (exec_store rfl (by kernel_rfl) (by kernel_rfl) hst) ?_
  refine wpList_valD (some 5) rfl rfl (by (go_simp; first | with_reducible rfl | exact ⟨rfl, rfl⟩ | (trace_state; fail))) ?_
  simp only [Zp, Zq, Zr, Zs]
  go_upto_region 99 with fail
  exact bodyPost_ret (results_totalE (b := w.heap.size + 1) HR.out z16_length rfl rfl) rfl (.inl ⟨cd, HN.out, ⟨rfl, HB.out⟩, HE.out⟩)
end

end Go.Proofs.Ytbakkmfjamcbfaa

namespace Go.Proofs.Ytbakkmfjamcbfaa
open Go.RowKit Fm
set_option linter.unusedVariables false
set_option maxRecDepth 100000

theorem rowB_one (w : World) (d : Int) : RowB (w.alloc (.cells #[.int .u8 d] 5)) w.heap.size 0 [d] := fun i e hi => by
 have hn := (Vs.new w [.int .u8 d] #[.int .u8 d] 5 rfl).cell
 match i, hi with
 | 0, hi =>
  injection hi with hi
  subst hi
  exact hn 0 _ rfl

set_option maxHeartbeats 4000000 in
theorem ref08_Uint4 (x : Nat) (hx : x < 18446744073709551616) (w : World) : Calls Try.prog 40 #[.int .u64 x, .int .i64 4] w (RetOB (bytesN x 4) w) := by
 have HBL := Lib.hid (bytesN_length x 4)
 go_enter Try.func40, Try.ntmps40
 go_wp2_with fail
 go_loopw [0, 5, 6] (fun v0 v5 v6 wr => ∃ (k : Nat) (A : Option Addr) (c : Nat), k ≤ 4 ∧ v6 = .int .i64 k ∧ v0 = .int .u64 ((x / 256 ^ k : Nat) : Int) ∧ v5 = .slice A k c ∧ wr.ownsRow w.heap.size 5 1 (.slice A k c) k (cells8 ((bytesN x 4).take k)) ∧ Below w.heap.size w wr) (fun _ _ v6 _ => 4 - (intOf v6).toNat)
 case atStart => exact ⟨0, none, 0, by omega, rfl, by rw [Nat.pow_zero, Nat.div_one], rfl, World.ownsRow_nil _ _ _ _, Below.refl _ _⟩
 case round =>
  obtain ⟨k, A, c, hk, rfl, rfl, rfl, hown, hbw⟩ := hrel
  by_cases hlt : k < 4
  ·have hk4 : (k : Int) < 4 := by omega
   have hk8 : (k : Int) < 8 := by omega
   have hat : (bytesN x 4)[k]? = some ((x / 256 ^ k % 256 : Nat) : Int) := by rw [bytesN_at x 4 k hlt, byteN_256]
   have hnx : x / 256 ^ (k + 1) = x / 256 ^ k / 256 := by rw [Nat.pow_succ, Nat.div_div_eq_div_mul]
   have HNX := Lib.hid hnx
   clear hnx
   have hy64 : x / 256 ^ k ≤ x := Nat.div_le_self _ _
   generalize x / 256 ^ k = y at *
   have HL : Hid ((bytesN x 4).take (k + 1) = (bytesN x 4).take k ++ [((y % 256 : Nat) : Int)]) := by
    show _ = _
    rw [List.take_add_one, hat]
    rfl
   obtain ⟨d, hd⟩ : ∃ d, y % 256 = d := ⟨_, rfl⟩
   rw [hd] at HL
   have hd2 : ((y : Int) % 256) = (d : Int) := by omega
   have hd9 : d < 256 := by omega
   have hwd : IntKind.u8.wrap (d : Int) = (d : Int) := by
    have h := u8_wrap (d : Int)
    rw [h]
    omega
   obtain ⟨z, hz⟩ : ∃ z, y / 256 = z := ⟨_, rfl⟩
   rw [hz] at HNX
   have hq : (y : Int).tdiv 256 = (z : Int) := by rw [Int.tdiv_eq_ediv_of_nonneg (by omega)]; omega
   have hwz : IntKind.u64.wrap (z : Int) = (z : Int) := IntWalk.u64_in _ (by omega)
   clear hz hy64
   clear hat hd hk hlt
   have hal := (Below.refl wr.heap.size wr).alloc (Nat.le_refl _) (.cells #[.int .u8 (d : Int)] 5)
   have HOW := Lib.hid (own_call hown hal)
   have hba := bl_call hbw (Nat.le_refl _) hal
   have hbase := hba.size
   have hR1 := rowB_one wr (d : Int)
   clear hown hal hbw
   go_upto_region 6 with (at_builtin; (refine wpList_append_B rfl (.tmp 16) (.tmp 20) rfl w.heap.size _ k _ rfl HOW.out (some ⟨wr.heap.size, 0, none⟩) 1 1 [(d : Int)] rfl rfl (fun _ => ⟨_, _, rfl, hR1⟩) (by omega) hbase ?_; intro v2 w2 hown2 hg2 hat2; have hb2 := hba.grown hg2 hbase (fun q hq => (World.ownsRow.lt HOW.out q hq).1); obtain ⟨g2, cap2, hv2⟩ := own_shape hown2; subst hv2; have HO2 := Lib.hid hown2; have HB2 := Lib.hid hb2; clear hown2 hb2 hg2 hat2))
   go_wp2_with fail
   go_roundw
   case rel => exact ⟨k + 1, g2, cap2, by omega, by go_num, by rw [HNX.out], rfl, by rw [HL.out]; exact HO2.out, HB2.out⟩
   case measure => simp [intOf]; omega
  ·obtain rfl : k = 4 := by omega
   rw [List.take_of_length_le (by rw [HBL.out]; exact Nat.le_refl _)] at hown
   have HO := Lib.hid hown
   have HB := Lib.hid hbw
   clear hown hbw
   go_wp2_with fail
   go_ret
   exact ⟨A, c, by rw [HBL.out]; rfl, by rw [HBL.out]; exact HO.out, HB.out⟩

section
variable {f : Nat} (hf : IsF f)
include hf

theorem ref01_Size (w : World) : Calls Try.prog 107 #[.int .i64 f] w fun e w' => e = .returned (.int .i64 (sizeK f : Nat)) ∧ w' = w := by
 have hs8 : (8 : Int) * (f : Int) = ((sizeK f : Nat) : Int) := by rcases hf.or with rfl | rfl <;> rfl
 have hs16 : sizeK f ≤ 16 := by unfold sizeK; split <;> omega
 generalize sizeK f = SZ at *
 have hwz : IntKind.i64.wrap (SZ : Int) = (SZ : Int) := IntWalk.i64_in _ (by omega)
 go_enter Try.func107, Try.ntmps107
 go_wp2_with fail
 go_ret
 exact ⟨rfl, rfl⟩


set_option maxHeartbeats 4000000 in
theorem ref01_Bytes (x : Fin (Pm f)) (w : World) : Calls Try.prog 75 #[.int .i64 f, vK x] w (RetOB (bytesK x) w) := by
 obtain ⟨a, ha⟩ : ∃ a : Nat, lo x = (a : Int) := ⟨(lo x).toNat, by have := lo_0 x; omega⟩
 obtain ⟨b, hb⟩ : ∃ b : Nat, hi x = (b : Int) := ⟨(hi x).toNat, by have := hi_0 x; omega⟩
 have hla := lo_1 x
 have hlb := hi_1 x
 have HOF := Lib.hid (fun wz => ref_OfL hf (lo x) (hi x) wz (lo_0 x) (lo_1 x) (hi_0 x) (hi_1 x))
 rw [kL_lohi] at HOF
 have hv2 : vK x = .agg #[.int .u64 a, .int .u64 b] := by rw [← ha, ← hb]
 unfold RetK at HOF
 rw [hv2] at HOF ⊢
 rw [ha, hb] at HOF
 have HSZ : Hid ((8 : Int) * (f : Int) = ((sizeK f : Nat) : Int)) := Lib.hid (by rcases hf.or with rfl | rfl <;> rfl)
 have HBL := Lib.hid (bytesK_length x)
 have HBK : Hid (∀ i, i < sizeK f → (bytesK x)[i]? = some (((if i < 8 then a else b) / 256 ^ (i % 8) % 256 : Nat) : Int)) := Lib.hid (by
  intro i hi
  have hta : (lo x).toNat = a := by omega
  have htb : (Go.Proofs.Ytbakkmfjamcbfaa.hi x).toNat = b := by omega
  unfold bytesK
  unfold sizeK at hi
  rw [hta, htb]
  by_cases h1 : f = 1
  ·rw [if_pos h1] at hi ⊢
   rw [if_pos hi, bytesN_at a 8 i hi, byteN_256, Nat.mod_eq_of_lt hi]
  ·rw [if_neg h1] at hi ⊢
   by_cases h8 : i < 8
   ·rw [if_pos h8, List.getElem?_append_left (by rw [bytesN_length]; exact h8), bytesN_at a 8 i h8, byteN_256, Nat.mod_eq_of_lt h8]
   ·rw [if_neg h8, List.getElem?_append_right (by rw [bytesN_length]; omega), bytesN_length, bytesN_at b 8 (i - 8) (by omega), byteN_256, show i % 8 = i - 8 by omega])
 have hs16 : sizeK f ≤ 16 := by unfold sizeK; split <;> omega
 have HSIZE := Lib.hid (fun wz => ref01_Size hf wz)
 obtain ⟨SZ, hsz⟩ : ∃ z, sizeK f = z := ⟨_, rfl⟩
 rw [hsz] at HSZ HBK HBL hs16 HSIZE
 have hs8 := HSZ.out
 generalize bytesK x = bs at *
 have hf0 : (1 : Int) ≤ (f : Int) := by rcases hf.or with rfl | rfl <;> omega
 have hf1 : (f : Int) ≤ 2 := by rcases hf.or with rfl | rfl <;> omega
 have hwz : IntKind.i64.wrap (SZ : Int) = (SZ : Int) := IntWalk.i64_in _ (by omega)
 have hSZN := Lib.hid hsz
 have ha64 : a < 18446744073709551616 := by omega
 have hb64 : b < 18446744073709551616 := by omega
 clear ha hb hla hlb hv2 hsz
 have hb00 : Below w.heap.size w w := Below.refl _ _
 go_enter Try.func75, Try.ntmps75
 go_upto_region 1 with fail
 have hx := V2.new w (.int .u64 a) (.int .u64 b) 99
 have hbA : Below w.heap.size w (w.alloc (.cells #[.int .u64 a, .int .u64 b] 99)) := by repeat (first | exact bA | with_reducible assumption | apply bB)
 replace hb00 := bl_call hb00 (Nat.le_refl _) hbA
 clear hbA
 generalize w.alloc (.cells #[.int .u64 a, .int .u64 b] 99) = w1 at hb00 hx ⊢
 obtain ⟨x0, x1, x2, x3, x4⟩ := V2.mk hx.c0 hx.c1 hx.f0 hx.f1 hx.lt
 go_upto_region 2 with (first
  | (go_at_call 55; refine (HOF.out _).mono ?_; rintro e w2 ⟨rfl, hb2⟩; replace hb00 := bl_call hb00 (Nat.le_refl _) hb2; replace hx := hx.call hb2; clear x0 x1 x2 x3 x4; clear hb2; obtain ⟨x0, x1, x2, x3, x4⟩ := V2.mk hx.c0 hx.c1 hx.f0 hx.f1 hx.lt))
 clear x0 x1 x2 x3 x4
 replace hx : V2 ((w2.setCell ⟨w.heap.size, 0, none⟩ (.int .u64 a)).setCell ⟨w.heap.size, 1, none⟩ (.int .u64 b)) (w.heap.size) (.int .u64 a) (.int .u64 b) := V2.set hx _ _
 replace hb00 := bl_st hb00 (b := w.heap.size) (by omega) (.int .u64 a) (.int .u64 b)
 generalize ((w2.setCell ⟨w.heap.size, 0, none⟩ (.int .u64 a)).setCell ⟨w.heap.size, 1, none⟩ (.int .u64 b)) = w3 at hx hb00 ⊢
 obtain ⟨x0, x1, x2, x3, x4⟩ := V2.mk hx.c0 hx.c1 hx.f0 hx.f1 hx.lt
 clear HOF
 go_wp2_with fail
 go_loopw [5, 6] (fun v5 v6 wr => ∃ (i : Nat) (A : Option Addr) (c : Nat), i ≤ SZ ∧ v6 = .int .i64 i ∧ v5 = .slice A i c ∧ wr.ownsRow w3.heap.size 5 1 (.slice A i c) i (cells8 (bs.take i)) ∧ Below w3.heap.size w3 wr) (fun _ v6 _ => SZ - (intOf v6).toNat)
 case atStart => exact ⟨0, none, 0, by omega, rfl, rfl, World.ownsRow_nil _ _ _ _, Below.refl _ _⟩
 case round =>
  obtain ⟨i, A, c, hi, rfl, rfl, hown, hbw⟩ := hrel
  have hx2 := hx.call hbw
  clear x0 x1 x2 x3 x4
  obtain ⟨x20, x21, x22, x23, x24⟩ := V2.mk hx2.c0 hx2.c1 hx2.f0 hx2.f1 hx2.lt
  by_cases hlt : i < SZ
  ·have hi4 : (i : Int) < (SZ : Int) := by omega
   have hat := HBK.out i hlt
   obtain ⟨r, hr⟩ : ∃ r, i % 8 = r := ⟨_, rfl⟩
   have hr8 : r ≤ 7 := by omega
   rw [hr] at hat
   have hir : (i : Int).tmod 8 = (r : Int) := by rw [Int.tmod_eq_emod_of_nonneg (by omega)]; omega
   have hir2 : (i : Int) % 8 = (r : Int) := by omega
   have hwr : IntKind.i64.wrap (r : Int) = (r : Int) := IntWalk.i64_in _ (by omega)
   have hwi : IntKind.i64.wrap ((i : Int) + 1) = (i : Int) + 1 := IntWalk.i64_in _ (by omega)
   have HR8 := Lib.hid hr
   clear hr
   by_cases h8 : i < 8
   ·have hq : (i : Int).tdiv 8 = 0 := by rw [Int.tdiv_eq_ediv_of_nonneg (by omega)]; omega
    rw [if_pos h8] at hat
    clear h8
    go_upto_region 7 with (go_at_call 107; refine (HSIZE.out _).mono ?_; rintro e wq ⟨rfl, hwq⟩; subst hwq)
    go_wp2_with fail
    go_loopw [7, 8] (fun v7 v8 wx => ∃ k : Nat, k ≤ r ∧ v8 = .int .i64 k ∧ v7 = .int .u64 ((a / 256 ^ k : Nat) : Int) ∧ wx = wq) (fun _ v8 _ => r - (intOf v8).toNat)
    case atStart => exact ⟨0, Nat.zero_le _, rfl, by rw [Nat.pow_zero, Nat.div_one], rfl⟩
    case round =>
     obtain ⟨k, hk, rfl, rfl, rfl⟩ := hrel
     by_cases hkr : k < r
     ·have hkr2 : (k : Int) < (r : Int) := by omega
      have HNX : Hid (a / 256 ^ (k + 1) = a / 256 ^ k / 256) := Lib.hid (by rw [Nat.pow_succ, Nat.div_div_eq_div_mul])
      have hy64 : a / 256 ^ k ≤ a := Nat.div_le_self _ _
      have hwk : IntKind.i64.wrap ((k : Int) + 1) = (k : Int) + 1 := IntWalk.i64_in _ (by omega)
      clear hat
      generalize a / 256 ^ k = y at *
      obtain ⟨z, hz⟩ : ∃ z, y / 256 = z := ⟨_, rfl⟩
      rw [hz] at HNX
      have hqz : (y : Int).tdiv 256 = (z : Int) := by rw [Int.tdiv_eq_ediv_of_nonneg (by omega)]; omega
      have hwz9 : IntKind.u64.wrap (z : Int) = (z : Int) := IntWalk.u64_in _ (by omega)
      clear hz hy64
      go_wp2_with fail
      go_roundw
      case rel => exact ⟨k + 1, by omega, by go_num, by rw [HNX.out], trivial⟩
      case measure => simp [intOf]; omega
     ·obtain rfl : r = k := by omega
      generalize a / 256 ^ r = y at *
      have HL : Hid (bs.take (i + 1) = bs.take i ++ [((y % 256 : Nat) : Int)]) := by
       show _ = _
       rw [List.take_add_one, hat]
       rfl
      obtain ⟨d, hd⟩ : ∃ d, y % 256 = d := ⟨_, rfl⟩
      rw [hd] at HL
      have hd2 : ((y : Int) % 256) = (d : Int) := by omega
      have hd9 : d < 256 := by omega
      have hwd : IntKind.u8.wrap (d : Int) = (d : Int) := by
       have h := u8_wrap (d : Int)
       rw [h]
       omega
      have hal := (Below.refl wr.heap.size wr).alloc (Nat.le_refl _) (.cells #[.int .u8 (d : Int)] 5)
      have HOW := Lib.hid (own_call hown hal)
      have hba := bl_call hbw (Nat.le_refl _) hal
      have hbase := hba.size
      have hR1 := rowB_one wr (d : Int)
      clear hown hal hbw hat hd hkr hlt
      go_upto_region 5 with (at_builtin; (refine wpList_append_B rfl (.tmp 30) (.tmp 34) rfl w3.heap.size _ i _ rfl HOW.out (some ⟨wr.heap.size, 0, none⟩) 1 1 [(d : Int)] rfl rfl (fun _ => ⟨_, _, rfl, hR1⟩) (by omega) hbase ?_; intro v2 w9 hown2 hg2 hat2; have hb2 := hba.grown hg2 hbase (fun q hq => (World.ownsRow.lt HOW.out q hq).1); obtain ⟨g2, cap2, hv2⟩ := own_shape hown2; subst hv2; have HO2 := Lib.hid hown2; have HB2 := Lib.hid hb2; clear hown2 hb2 hg2 hat2))
      go_wp2_with fail
      go_roundw
      case rel => exact ⟨i + 1, g2, cap2, by omega, by go_num, rfl, by rw [HL.out]; exact HO2.out, HB2.out⟩
      case measure => simp [intOf]; omega
   ·have hq : (i : Int).tdiv 8 = 1 := by rw [Int.tdiv_eq_ediv_of_nonneg (by omega)]; omega
    rw [if_neg h8] at hat
    clear h8
    go_upto_region 7 with (go_at_call 107; refine (HSIZE.out _).mono ?_; rintro e wq ⟨rfl, hwq⟩; subst hwq)
    go_wp2_with fail
    go_loopw [7, 8] (fun v7 v8 wx => ∃ k : Nat, k ≤ r ∧ v8 = .int .i64 k ∧ v7 = .int .u64 ((b / 256 ^ k : Nat) : Int) ∧ wx = wq) (fun _ v8 _ => r - (intOf v8).toNat)
    case atStart => exact ⟨0, Nat.zero_le _, rfl, by rw [Nat.pow_zero, Nat.div_one], rfl⟩
    case round =>
     obtain ⟨k, hk, rfl, rfl, rfl⟩ := hrel
     by_cases hkr : k < r
     ·have hkr2 : (k : Int) < (r : Int) := by omega
      have HNX : Hid (b / 256 ^ (k + 1) = b / 256 ^ k / 256) := Lib.hid (by rw [Nat.pow_succ, Nat.div_div_eq_div_mul])
      have hy64 : b / 256 ^ k ≤ b := Nat.div_le_self _ _
      have hwk : IntKind.i64.wrap ((k : Int) + 1) = (k : Int) + 1 := IntWalk.i64_in _ (by omega)
      clear hat
      generalize b / 256 ^ k = y at *
      obtain ⟨z, hz⟩ : ∃ z, y / 256 = z := ⟨_, rfl⟩
      rw [hz] at HNX
      have hqz : (y : Int).tdiv 256 = (z : Int) := by rw [Int.tdiv_eq_ediv_of_nonneg (by omega)]; omega
      have hwz9 : IntKind.u64.wrap (z : Int) = (z : Int) := IntWalk.u64_in _ (by omega)
      clear hz hy64
      go_wp2_with fail
      go_roundw
      case rel => exact ⟨k + 1, by omega, by go_num, by rw [HNX.out], trivial⟩
      case measure => simp [intOf]; omega
     ·obtain rfl : r = k := by omega
      generalize b / 256 ^ r = y at *
      have HL : Hid (bs.take (i + 1) = bs.take i ++ [((y % 256 : Nat) : Int)]) := by
       show _ = _
       rw [List.take_add_one, hat]
       rfl
      obtain ⟨d, hd⟩ : ∃ d, y % 256 = d := ⟨_, rfl⟩
      rw [hd] at HL
      have hd2 : ((y : Int) % 256) = (d : Int) := by omega
      have hd9 : d < 256 := by omega
      have hwd : IntKind.u8.wrap (d : Int) = (d : Int) := by
       have h := u8_wrap (d : Int)
       rw [h]
       omega
      have hal := (Below.refl wr.heap.size wr).alloc (Nat.le_refl _) (.cells #[.int .u8 (d : Int)] 5)
      have HOW := Lib.hid (own_call hown hal)
      have hba := bl_call hbw (Nat.le_refl _) hal
      have hbase := hba.size
      have hR1 := rowB_one wr (d : Int)
      clear hown hal hbw hat hd hkr hlt
      go_upto_region 5 with (at_builtin; (refine wpList_append_B rfl (.tmp 30) (.tmp 34) rfl w3.heap.size _ i _ rfl HOW.out (some ⟨wr.heap.size, 0, none⟩) 1 1 [(d : Int)] rfl rfl (fun _ => ⟨_, _, rfl, hR1⟩) (by omega) hbase ?_; intro v2 w9 hown2 hg2 hat2; have hb2 := hba.grown hg2 hbase (fun q hq => (World.ownsRow.lt HOW.out q hq).1); obtain ⟨g2, cap2, hv2⟩ := own_shape hown2; subst hv2; have HO2 := Lib.hid hown2; have HB2 := Lib.hid hb2; clear hown2 hb2 hg2 hat2))
      go_wp2_with fail
      go_roundw
      case rel => exact ⟨i + 1, g2, cap2, by omega, by go_num, rfl, by rw [HL.out]; exact HO2.out, HB2.out⟩
      case measure => simp [intOf]; omega
  ·obtain rfl : i = SZ := by omega
   rw [List.take_of_length_le (by rw [HBL.out]; exact Nat.le_refl _)] at hown
   have HO := Lib.hid (own_lower hown hb00.size)
   have HB := Lib.hid (hb00.trans (hbw.mono hb00.size))
   clear hown hbw hx hx2
   go_wp2_with (go_at_call 107; refine (HSIZE.out _).mono ?_; rintro e wq ⟨rfl, hwq⟩; subst hwq)
   go_ret
   exact ⟨A, c, by rw [HBL.out]; rfl, by rw [HBL.out]; exact HO.out, HB.out⟩

set_option maxHeartbeats 4000000 in
theorem ref01_Vec (vl : Value) (l : KL f) (w : World) (hl : SlK w w.heap.size vl l) (hn : l.length ≤ 1000000) :
  Calls Try.prog 41 #[.int .i64 f, vl] w (RetOB (vecB l) w) := by
 obtain ⟨A, c, rfl, hc, hcm, hA⟩ := hl
 have HBY := Lib.hid (fun (x : Fin (Pm f)) wz => ref01_Bytes hf x wz)
 have hsk : sizeK f ≤ 16 := by unfold sizeK; split <;> omega
 have HN := Lib.hid hn
 have HBK := Lib.hid (fun (x : Fin (Pm f)) => bytesK_length x)
 obtain ⟨SZ, hsz⟩ : ∃ z, sizeK f = z := ⟨_, rfl⟩
 rw [hsz] at hsk HBK
 clear hsz hn
 go_enter Try.func41, Try.ntmps41
 go_wp2_with fail
 go_loopw [5, 6] (fun v5 i wr => ∃ (k : Nat) (A' : Option Addr) (m cp : Nat), k ≤ l.length ∧ i = .int .i64 k ∧ v5 = .slice A' m cp ∧ m ≤ 16 * k ∧ Hid ((vecB (l.take k)).length = m) ∧ wr.ownsRow w.heap.size 5 1 (.slice A' m cp) m (cells8 (vecB (l.take k))) ∧ Below w.heap.size w wr) (fun _ i _ => l.length - (intOf i).toNat)
 case atStart => exact ⟨0, none, 0, 0, Nat.zero_le _, rfl, rfl, by omega, (by rw [List.take_zero]; rfl : (vecB (l.take 0)).length = 0), World.ownsRow_nil _ _ _ _, Below.refl _ _⟩
 case round =>
  obtain ⟨k, A', m, cp, hk, rfl, rfl, hm, hml, hown, hbw⟩ := hrel
  by_cases hlt : k < l.length
  ·obtain ⟨b, o, rfl, hB, hr⟩ := hA (by omega)
   obtain ⟨x, he⟩ : ∃ e, l[k]? = some e := ⟨_, List.getElem?_eq_getElem hlt⟩
   obtain ⟨d0, d1⟩ := (hr.below hbw hB).kat he
   have hn9 := HN.out
   have HV : Hid (vecB (l.take (k + 1)) = vecB (l.take k) ++ bytesK x) := by
    show vecB (l.take (k + 1)) = _
    unfold vecB
    rw [List.take_add_one, he, List.flatMap_append]
    simp
   clear he hr hA
   generalize vecB (l.take k) = zs at *
   have HBX := Lib.hid (HBK.out x)
   go_upto_region 4 with (first
    | (go_at_call 75; refine (HBY.out x _).mono ?_; rintro e w5 ⟨A5, c5, rfl, hown5, hb5⟩; rw [HBX.out] at hown5 ⊢; have hbw5 := bl_call hbw (Nat.le_refl _) hb5; have HOW := Lib.hid (own_call hown hb5); have hbase : w.heap.size ≤ w5.heap.size := hbw5.size; have HR1 := Lib.hid (own_srcB hown5); have hk1 : m + SZ ≤ 1099511627776 := (by omega); clear hown5 hown hb5)
    | (at_builtin; (refine wpList_append_B rfl (.tmp 13) (.tmp 19) rfl w.heap.size _ m zs rfl HOW.out A5 SZ c5 (bytesK x) rfl HBX.out HR1.out hk1 hbase ?_; intro v2 w7 hown7 hg7 hat7; have hb7 : Below w.heap.size w w7 := hbw5.grown hg7 hbase (fun q hq => (HOW.out.lt q hq).1); obtain ⟨g2, cap2, hv2⟩ := own_shape hown7; subst hv2; have HO7 := Lib.hid hown7; have HB7 := Lib.hid hb7; clear hown7 hb7 hg7 hat7)))
   go_wp2_with fail
   go_roundw
   case rel => exact ⟨k + 1, _, m + SZ, cap2, by omega, by go_num, rfl, by omega, (by rw [HV.out, List.length_append, HBX.out, hml.out] : (vecB (l.take (k + 1))).length = m + SZ), by rw [HV.out]; exact HO7.out, HB7.out⟩
   case measure => simp [intOf]; omega
  ·obtain rfl : k = l.length := by omega
   rw [List.take_length] at hml hown
   have HO := Lib.hid hown
   clear hown
   go_wp2_with fail
   go_ret
   have hml9 := hml.out
   subst hml9
   exact ⟨_, _, rfl, HO.out, hbw⟩
end

end Go.Proofs.Ytbakkmfjamcbfaa

namespace Go.Proofs.Ytbakkmfjamcbfaa
open Go.RowKit Fm
set_option linter.unusedVariables false
set_option maxRecDepth 100000

theorem putB_parts {f : Nat} (N : Nat) (K : List Int) (S : KL f) (n : Nat) (hK : K.length = 16) (hS : S.length = n) (hN : N < 4294967296) :
  (putB N K S).length = 20 + n * sizeK f ∧ valB ((putB N K S).take 4) = N ∧ ((putB N K S).drop 4).take 16 = K ∧ ((putB N K S).drop 4).drop 16 = vecB S ∧ (putB N K S).take 4 = bytesN N 4 := by
 have h4 : (bytesN N 4).length = 4 := bytesN_length N 4
 have e1 : (putB N K S).take 4 = bytesN N 4 := by
  unfold putB
  rw [List.take_append_of_le_length (by omega), List.take_of_length_le (by omega)]
 have e2 : (putB N K S).drop 4 = K ++ vecB S := by
  unfold putB
  rw [List.drop_append_of_le_length (by omega), List.drop_of_length_le (by omega), List.nil_append]
 refine ⟨?_, ?_, ?_, ?_, e1⟩
 ·unfold putB
  rw [List.length_append, List.length_append, h4, hK, vecB_length, hS]
  omega
 ·rw [e1]
  exact valB_bytesN 4 N (by simpa using hN)
 ·rw [e2, List.take_append_of_le_length (by omega), List.take_of_length_le (by omega)]
 ·rw [e2, List.drop_append_of_le_length (by omega), List.drop_of_length_le (by omega), List.nil_append]

theorem putB_b8 {f : Nat} (N : Nat) (K : List Int) (S : KL f) (hK : B8 K) : B8 (putB N K S) := by
 intro x hx
 unfold putB at hx
 rcases List.mem_append.1 hx with h | h
 ·unfold bytesN at h
  obtain ⟨i, _, rfl⟩ := List.mem_map.1 h
  have : byteN N i < 256 := Nat.mod_lt _ (by omega)
  omega
 ·rcases List.mem_append.1 h with h | h
  ·exact hK x h
  ·exact vecB_u8 S x h

theorem putB_of {f : Nat} (M : Nat) (bs : List Int) (S : KL f) (h8 : B8 bs) (hl : bs.length = 20 + M) (hS : vecB S = ((bs.drop 4).drop 16).take M) : putB (valB (bs.take 4)) ((bs.drop 4).take 16) S = bs := by
 have h4 : (bs.take 4).length = 4 := by
  rw [List.length_take]
  omega
 have e1 : bytesN (valB (bs.take 4)) 4 = bs.take 4 := by
  have h := bytesN_valB (bs.take 4) (fun x hx => h8 x (List.mem_of_mem_take hx))
  rwa [h4] at h
 unfold putB
 rw [e1, hS, List.take_of_length_le (l := (bs.drop 4).drop 16) (by rw [List.length_drop, List.length_drop]; omega), List.take_append_drop, List.take_append_drop]

def SlB (w : World) (A : Option Addr) (bs : List Int) (c : Nat) : Prop :=
 (bs.length ≤ c ∧ c ≤ 9223372036854775807) ∧ (0 < bs.length → ∃ b o, A = some ⟨b, o, none⟩ ∧ b < w.heap.size ∧ RowB w b o bs)
theorem SlB.later {w w' : World} {A : Option Addr} {bs : List Int} {c : Nat} (h : SlB w A bs c) (hb : Below w.heap.size w w') : SlB w' A bs c :=
 ⟨h.1, fun hp => by
  obtain ⟨b, o, e1, e2, e3⟩ := h.2 hp
  exact ⟨b, o, e1, Nat.lt_of_lt_of_le e2 hb.size, e3.belowB hb e2⟩⟩
theorem SlB.own {w : World} {B n c : Nat} {A : Option Addr} {xs : List Int} (h : w.ownsRow B 5 1 (.slice A n c) n (cells8 xs)) (hn : xs.length = n) : SlB w A xs c := by
 obtain ⟨h1, h2, h3⟩ := own_cap h
 subst hn
 exact ⟨⟨h1, h2⟩, fun hp => by
  obtain ⟨b, e1, e2, e3⟩ := h3 hp
  exact ⟨b, 0, e1, e3, e2⟩⟩
theorem SlB.takeN {w : World} {A : Option Addr} {bs : List Int} {c : Nat} (h : SlB w A bs c) (j : Nat) (hj : j ≤ bs.length) : SlB w A (bs.take j) c := by
 have hl : (bs.take j).length = j := by
  rw [List.length_take]
  omega
 refine ⟨⟨by have := h.1.1; omega, h.1.2⟩, fun hp => ?_⟩
 rw [hl] at hp
 obtain ⟨b, o, e1, e2, e3⟩ := h.2 (by omega)
 exact ⟨b, o, e1, e2, e3.takeS j⟩

def RwZ (f n : Nat) (raw : List Int) (B : Nat) (A : Option Addr) (q c : Nat) (m : Int) (k : List Int) (code : Int) (w : World) : Prop :=
 (code ≠ 0 ∧ A = none ∧ q = 0 ∧ c = 0 ∧ m = 0 ∧ k = z16) ∨ (code = 0 ∧ q = n ∧ ∃ (S : KL f) (V : Nat), m = (V : Int) ∧ V ≤ 256 ∧ w.ownsRow B 99 2 (.slice A n c) n (cellsE (esK S)) ∧ S.length = n ∧ putB V k S = raw)
theorem RwZ.call {f n : Nat} {raw : List Int} {B : Nat} {A : Option Addr} {q c : Nat} {m : Int} {k : List Int} {code : Int} {w w' : World} (h : RwZ f n raw B A q c m k code w) (hb : Below w.heap.size w w') : RwZ f n raw B A q c m k code w' := by
 rcases h with h | ⟨h1, h2, S, V, h3, h4, h5, h6, h7⟩
 ·exact .inl h
 ·exact .inr ⟨h1, h2, S, V, h3, h4, own_call h5 hb, h6, h7⟩
theorem RwZ.exc {f n : Nat} {raw : List Int} {B g0 : Nat} {A : Option Addr} {q c : Nat} {m : Int} {k : List Int} {code : Int} {w w' : World} (h : RwZ f n raw B A q c m k code w) (hg : g0 < B) (hx : Exc (fun q => q = g0) w.heap.size w w') : RwZ f n raw B A q c m k code w' := by
 rcases h with h | ⟨h1, h2, S, V, h3, h4, h5, h6, h7⟩
 ·exact .inl h
 ·exact .inr ⟨h1, h2, S, V, h3, h4, own_other h5 hx (fun g hg2 e => by
   have := (h5.lt g hg2).1
   omega), h6, h7⟩
def RetRwB (f n : Nat) (raw : List Int) (w : World) (e : Ending) (w' : World) : Prop :=
 ∃ (A : Option Addr) (q c : Nat) (m : Int) (k : List Int) (code : Int), e = .returned (.tuple #[.agg (totL (.slice A q c) m k).toArray, .int .i64 code]) ∧ k.length = 16 ∧ Below w.heap.size w w' ∧ RwZ f n raw w.heap.size A q c m k code w'
theorem take_raw {f n M : Nat} {raw : List Int} (h8 : B8 raw) {w w' : World} {e : Ending} (h : RetTake f n M raw w e w') : RetRwB f n raw w e w' := by
 rcases h with ⟨c, hc, ⟨h1, h2⟩, _⟩ | ⟨A, c, S, h1, h2, h3, h4, h5, h6, h7⟩
 ·exact ⟨none, 0, 0, 0, z16, c, h1, z16_length, h2, .inl ⟨hc, rfl, rfl, rfl, rfl, rfl⟩⟩
 ·exact ⟨A, n, c, _, _, 0, h1, by rw [List.length_take, List.length_drop]; omega, h7, .inr ⟨rfl, rfl, S, _, rfl, h6, h2, h3, putB_of M raw S h8 h5 h4⟩⟩

section
variable {f : Nat} (hf : IsF f)
include hf

theorem take_same {n M N : Nat} {K : List Int} {S : KL f} (hM : M = n * sizeK f) (hK : K.length = 16) (hS : S.length = n) (hN : N ≤ 256) {w w' : World} {e : Ending} (h : RetTake f n M (putB N K S) w e w') :
  ∃ (A : Option Addr) (c : Nat), e = .returned (.tuple #[.agg (totL (.slice A n c) (N : Int) K).toArray, .int .i64 0]) ∧ w'.ownsRow w.heap.size 99 2 (.slice A n c) n (cellsE (esK S)) ∧ Below w.heap.size w w' := by
 obtain ⟨h1, h2, h3, h4, _⟩ := putB_parts N K S n hK hS (by omega)
 rw [← hM] at h1
 have hvl : (vecB S).length = M := by rw [vecB_length, hS, hM]
 rcases h with ⟨c, hc, _, h⟩ | ⟨A, c, S', h5, h6, h7, h8, _, _, h9⟩
 ·exfalso
  rcases h with (⟨_, h⟩ | ⟨_, _, h⟩ | ⟨_, _, h⟩) | ⟨_, h⟩
  ·omega
  ·rw [h2] at h
   omega
  ·refine h S hS ?_
   rw [h4, List.take_of_length_le (by omega)]
  ·omega
 ·rw [h4, List.take_of_length_le (by omega)] at h8
  have he : S' = S := vecB_inj hf (by rw [h7, hS]) h8
  subst he
  rw [h2, h3] at h5
  exact ⟨A, c, h5, h6, h9⟩

omit hf in
theorem take_cut {n M N : Nat} {K : List Int} {S : KL f} (hM : M = n * sizeK f) (hK : K.length = 16) (hS : S.length = n) (hN : N ≤ 256) (j : Nat) (hj : j < 20 + M) {w w' : World} {e : Ending} (h : RetTake f n M ((putB N K S).take j) w e w') : RetT0 3 w e w' := by
 obtain ⟨h1, h2, h3, h4, _⟩ := putB_parts N K S n hK hS (by omega)
 rw [← hM] at h1
 have hl : ((putB N K S).take j).length = j := by
  rw [List.length_take]
  omega
 rcases h with ⟨c, hc, h0, h⟩ | ⟨A, c, S', _, _, _, _, h, _⟩
 ·rcases h with (⟨rfl, _⟩ | ⟨_, h5, h⟩ | ⟨_, h, _⟩) | ⟨_, h⟩
  ·exact h0
  ·exfalso
   rw [hl] at h5
   rw [List.take_take, Nat.min_eq_left h5, h2] at h
   omega
  ·omega
  ·omega
 ·omega

omit hf in
theorem take_more {n M N : Nat} {K : List Int} {S : KL f} (hM : M = n * sizeK f) (hK : K.length = 16) (hS : S.length = n) (hN : N ≤ 256) {w w' : World} {e : Ending} (h : RetTake f n M (putB N K S ++ [0]) w e w') : RetT0 27 w e w' := by
 obtain ⟨h1, h2, h3, h4, _⟩ := putB_parts N K S n hK hS (by omega)
 rw [← hM] at h1
 have hvl : (vecB S).length = M := by rw [vecB_length, hS, hM]
 have hl : (putB N K S ++ [0]).length = 20 + M + 1 := by
  rw [List.length_append, h1]
  rfl
 rcases h with ⟨c, hc, h0, h⟩ | ⟨A, c, S', _, _, _, _, h, _⟩
 ·rcases h with (⟨_, h⟩ | ⟨_, h5, h⟩ | ⟨_, _, h⟩) | ⟨rfl, h⟩
  ·omega
  ·exfalso
   rw [List.take_append_of_le_length (by omega), h2] at h
   omega
  ·exfalso
   refine h S hS ?_
   rw [List.drop_append_of_le_length (by omega), List.drop_append_of_le_length (by rw [List.length_drop]; omega), h4, List.take_append_of_le_length (by omega), List.take_of_length_le (by omega)]
  ·exact h0
 ·omega
end

end Go.Proofs.Ytbakkmfjamcbfaa
