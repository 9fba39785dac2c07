/-
  The document's parts of a sequence's header, walked.
  The document's parts of a sequence's header, walked: the loops.
-/
import Derived.Deep.CutBlock
import Derived.Deep.DeepCutAuto
import Derived.Test.YtfkecgkfcldffaaDoorZPcC
namespace Go.Proofs.YtfkecgkfcldffaaDoor
set_option linter.unusedSimpArgs false
set_option linter.unusedVariables false
section
open Go.RowKit

end
section
open Go.RowKit

theorem strOf_size (l : List Int) : (strOf l).size = l.length := by simp [strOf, ByteArray.size]
/-- The numbers of a header, however its bytes are. -/
theorem nums_call {l : List Int} (hl : ∀ c ∈ l, 0 ≤ c ∧ c < 256) (hn : l.length ≤ 80000) (ha : l.all isAcc = true) (W : World) : Calls Tryd.prog 56 #[.string (strOf l)] W (NumsTo W l) := by
  have h := rparse_good (strOf l) W (by rw [strOf_size]; omega) (by rw [bl_strOf l hl]; exact ha)
  rwa [bl_strOf l hl] at h
theorem nums_bad {l : List Int} (hl : ∀ c ∈ l, 0 ≤ c ∧ c < 256) (hn : l.length ≤ 80000) (ha : l.all isAcc = false) (W : World) : Calls Tryd.prog 56 #[.string (strOf l)] W fun e w' => e = .returned (.tuple #[.slice none 0 0, .int .i64 3]) ∧ W = w' :=
  rparse_bad (strOf l) W (by rw [strOf_size]; omega) (by rw [bl_strOf l hl]; exact ha)
end
end Go.Proofs.YtfkecgkfcldffaaDoor
