/-
  Restore of both texts: one answer.
-/
import Derived.Test.YtfkecgkfcldffaaGreatDoorZIsU
namespace Go.Proofs.YtfkecgkfcldffaaGreatDoor
set_option linter.unusedSimpArgs false
set_option linter.unusedVariables false
open Go.RowKit
set_option linter.unusedVariables false

theorem rstR_bad {sz gl gr : Int} {X : S7} {l : List UInt8} (h : ¬ (between 0 3 gl = true ∧ between 1 3 gr = true ∧ between 64 79 sz = true)) : rstR sz gl gr X l = (X, false) := by
  unfold rstR; rw [if_neg h]
theorem rst_any (X : S7) (gl gr sz : Int) (l : List UInt8) (w : World) (hsz : 0 ≤ sz ∧ sz < 256) (hl : l.length ≤ maxLen) :
    Calls Tryz.prog 32 #[.agg X.cells, .int .i64 gl, .int .i64 gr, .int .u8 sz, .string (bsl l)] w fun e w' => e = .returned (.tuple #[.agg (rstR sz gl gr X l).1.cells, .bool (rstR sz gl gr X l).2]) ∧ Gr w w' := by
  by_cases h : between 0 3 gl = true ∧ between 1 3 gr = true ∧ between 64 79 sz = true
  · exact rst_good X gl gr sz l w hsz hl h
  · rw [rstR_bad h]; exact rst_bad X gl gr sz l w hsz h
end Go.Proofs.YtfkecgkfcldffaaGreatDoor
