/-
 Pair: for TotalErrors.
-/
import Derived.Test.YtbakkmfjamcbfaaKad
namespace Go.Proofs.Ytbakkmfjamcbfaa
open Go.RowKit Fm
set_option linter.unusedVariables false
set_option maxRecDepth 100000

def RetErr (n : Int) (w : World) (e : Ending) (w' : World) : Prop := e = .returned (.tuple #[.slice none 0 0, .int .i64 n]) ∧ Below w.heap.size w w'

theorem pair_size (va vb vf : Value) (xs ys : List E) (w : World) (hx : SlE w w.heap.size va xs) (hy : SlE w w.heap.size vb ys) (hl : xs.length ≠ ys.length) :
  Calls Try.prog 68 #[va, vb, vf] w (RetErr 9 w) := by
 obtain ⟨⟨A, c, rfl, hc, hcm, hA⟩, hokx⟩ := hx
 obtain ⟨⟨A', c', rfl, hc', hcm', hA'⟩, hoky⟩ := hy
 clear hA hA'
 have hb : ((xs.length : Int) != (ys.length : Int)) = true := by simp; omega
 go_enter Try.func68, Try.ntmps68
 go_wp2
 go_ret2
 exact ⟨rfl, by repeat (first | exact bA | with_reducible assumption | apply bB | (refine bC ?_ (by dsimp only; omega)) | apply bD | apply bE | (refine bF ?_ (by assumption)))⟩

theorem field_AddVec_size (f : Int) (va vb : Value) (xs ys : List E) (w : World) (hx : SlE w w.heap.size va xs) (hy : SlE w w.heap.size vb ys) (hl : xs.length ≠ ys.length) :
  Calls Try.prog 58 #[.int .u8 f, va, vb] w (RetErr 9 w) := by
 have hc := fun vf => pair_size va vb vf xs ys w hx hy hl
 obtain ⟨⟨A, c, rfl, hc, hcm, hA⟩, hokx⟩ := hx
 obtain ⟨⟨A', c', rfl, hc', hcm', hA'⟩, hoky⟩ := hy
 have HC := Lib.hid hc
 clear hc hl
 have hmf : ∀ (fn : Fn) (first cap : Array Value) (w : World), (Instr.makeFunc fn first cap).run Try.prog w = .ok (.func fn first cap) w := fun _ _ _ _ => rfl
 go_enter Try.func58, Try.ntmps58
 go_wp2_with fail
 refine (HC.out _).mono ?_
 rintro e w1 ⟨rfl, hb⟩
 go_wp2
 go_ret2
 exact ⟨rfl, hb⟩

end Go.Proofs.Ytbakkmfjamcbfaa
