/-
  Two states, or two lists of four numbers, held against each other.
-/
import Derived.Test.YtomflpkokcldeaaIsF
namespace Go.Proofs.Ytomflpkokcldeaa
set_option linter.unusedSimpArgs false
set_option linter.unusedVariables false
open Go.RowKit

set_option maxRecDepth 100000 in
theorem eq_arr (d : Nat) (a0 a1 a2 a3 b0 b1 b2 b3 : Int) (w : World) : (Op.equalIn (d + 2) 22 (.agg #[.int .i64 a0, .int .i64 a1, .int .i64 a2, .int .i64 a3]) (.agg #[.int .i64 b0, .int .i64 b1, .int .i64 b2, .int .i64 b3])).run Try.prog w = .ok (a0 == b0 && (a1 == b1 && (a2 == b2 && a3 == b3))) w := by
  unfold Op.equalIn
  rw [Sem.run_bind, run_underlying Try.underlying22]
  simp only [Result.andThen]
  simp [go_sem, Std.Legacy.Range.forIn_eq_forIn_range', List.range']
  by_cases h0 : a0 = b0 <;> by_cases h1 : a1 = b1 <;> by_cases h2 : a2 = b2 <;> by_cases h3 : a3 = b3 <;> simp [*]

def stEq (a0 a1 a2 a3 a4 a5 a6 b0 b1 b2 b3 b4 b5 b6 : Int) : Bool := (a0 == b0 && (a1 == b1 && (a2 == b2 && a3 == b3))) && (a4 == b4 && (a5 == b5 && a6 == b6))
theorem stEq_refl (a0 a1 a2 a3 a4 a5 a6 : Int) : stEq a0 a1 a2 a3 a4 a5 a6 a0 a1 a2 a3 a4 a5 a6 = true := by simp [stEq]

theorem eq_st (T : Nat) (hT : T = 27 ∨ T = 24) (a0 a1 a2 a3 a4 a5 a6 b0 b1 b2 b3 b4 b5 b6 : Int) (w : World) :
    (Op.equalIn 10000 T (.agg #[.int .i64 a0, .int .i64 a1, .int .i64 a2, .int .i64 a3, .int .i64 a4, .int .i64 a5, .int .i64 a6]) (.agg #[.int .i64 b0, .int .i64 b1, .int .i64 b2, .int .i64 b3, .int .i64 b4, .int .i64 b5, .int .i64 b6])).run Try.prog w = .ok (stEq a0 a1 a2 a3 a4 a5 a6 b0 b1 b2 b3 b4 b5 b6) w := by
  have ea := fun w => eq_arr 9997 a0 a1 a2 a3 b0 b1 b2 b3 w
  simp only [Nat.reduceAdd] at ea
  unfold stEq
  rcases hT with rfl | rfl
  all_goals
    generalize (a0 == b0 && (a1 == b1 && (a2 == b2 && a3 == b3))) = x at ea ⊢
    simp [go_sem, ea]
    cases x <;> by_cases h4 : a4 = b4 <;> by_cases h5 : a5 = b5 <;> by_cases h6 : a6 = b6 <;> simp [*]
end Go.Proofs.Ytomflpkokcldeaa
