/-
  The plain tables of the sets of characters and what the two texts compute from them, in plain terms; no program in sight.
-/
import Derived.Laws.RangeAny
import Derived.Laws.Runes
import Derived.Lib.RuneCount
namespace Go.Proofs.YtfkecgkfcldffaaDoor
set_option linter.unusedSimpArgs false
set_option linter.unusedVariables false

def between (a b n : Int) : Bool := decide (a ≤ n) && decide (n ≤ b)

end Go.Proofs.YtfkecgkfcldffaaDoor
