/-
  '==' and '!=' of two elements.
-/
import Derived.Test.YtgambjmjbmdciaaMem
import Derived.Test.YtgambjmjbmdciaaProg
import Derived.ChangeKeysEq
namespace Go.Proofs.Ytgambjmjbmdciaa
open Go.RowKit

theorem cells_elem : Try.prog.cellsOf 39 = 1 := by kernel_rfl

theorem info_u64 : (Try.prog.info? 39).isSome = true := by kernel_rfl

theorem run_equalIn_elem (d : Nat) (a0 a1 b0 b1 : Int) (w : World) :
    (Op.equalIn (d + 2) 41 (.agg #[.int .u64 a0, .int .u64 a1]) (.agg #[.int .u64 b0, .int .u64 b1])).run Try.prog w = .ok (a0 == b0 && a1 == b1) w := by
  obtain ⟨i, hi⟩ : ∃ i, Try.prog.info? 39 = some i := Option.isSome_iff_exists.1 info_u64
  rw [run_equalIn_array w (d + 1) _ _ Try.underlying41 hi, cells_elem]
  have p0 : ∀ (x y : Int), (part 39 #[.int .u64 x, .int .u64 y] (0 * 1)).run Try.prog w = .ok (.int .u64 x) w := by
    intro x y
    simp [part, isAgg, run_underlying Try.underlying39]
  have p1 : ∀ (x y : Int), (part 39 #[.int .u64 x, .int .u64 y] (1 * 1)).run Try.prog w = .ok (.int .u64 y) w := by
    intro x y
    simp [part, isAgg, run_underlying Try.underlying39]
  have e0 : ∀ (x y : Int), (Op.equalIn (d + 1) 39 (.int .u64 x) (.int .u64 y)).run Try.prog w = .ok (x == y) w := fun x y => run_equalIn_int w d 39 .u64 .u64 x y Try.underlying39
  simp only [show List.range 2 = [0, 1] from rfl, Op.eqItems, Sem.run_bind, p0, e0, Result.andThen_ok]
  cases h : (a0 == b0) <;> simp [Sem.run_bind, p1, e0]
  cases h1 : (a1 == b1) <;> simp <;> simpa using h1

/-- '==' of two elements -/
theorem eql_elem (a0 a1 b0 b1 : Int) (w : World) :
    (binOp .eql 41 (.agg #[.int .u64 a0, .int .u64 a1]) (.agg #[.int .u64 b0, .int .u64 b1])).run Try.prog w = .ok (.bool (a0 == b0 && a1 == b1)) w := by
  rw [run_eql_struct, run_equalIn_elem 9998]
  rfl

theorem neq_elem (a0 a1 b0 b1 : Int) (w : World) :
    (binOp .neq 41 (.agg #[.int .u64 a0, .int .u64 a1]) (.agg #[.int .u64 b0, .int .u64 b1])).run Try.prog w = .ok (.bool (!(a0 == b0 && a1 == b1))) w := by
  rw [run_neq_struct, run_equalIn_elem 9998]
  rfl

end Go.Proofs.Ytgambjmjbmdciaa
