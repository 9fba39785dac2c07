/-
  What the program's sets of characters compute, function by function: the glyph of a code.
-/
import Derived.Lib.RuneCount
import Derived.Test.YtfkecgkfcldffaaDoorRows
import Derived.Test.YtfkecgkfcldffaaDoorZLw4
import Derived.Test.YtfkecgkfcldffaaDoorZCsTab
namespace Go.Proofs.YtfkecgkfcldffaaDoor
set_option linter.unusedSimpArgs false
set_option linter.unusedVariables false
open Go.RowKit

set_option maxHeartbeats 400000 in
theorem is_any (n : Int) (w : World) :
    Calls Tryd.prog 94 #[.int .i64 n] w fun e w' => e = .returned (.bool (between 1 17 n)) ∧ w = w' := by
  go_enter Tryd.func94, Tryd.ntmps94
  go_wp2
  all_goals (go_ret; refine ⟨?_, rfl⟩; simp [between]; try omega)

end Go.Proofs.YtfkecgkfcldffaaDoor
