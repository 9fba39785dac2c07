/-
  Every token that the machine says can be: the plain law.
-/
import Derived.Deep.CutBlock
import Derived.Deep.DeepCutAuto
import Derived.Lib.SlBytesConst
import Derived.Maps.AppendAt
import Derived.Test.YtfkecgkfcldffaaGreatDoorZPcC
import Derived.Test.YtfkecgkfcldffaaGreatDoorZPdC
namespace Go.Proofs.YtfkecgkfcldffaaGreatDoor
set_option linter.unusedSimpArgs false
set_option linter.unusedVariables false

def NumsL (l : List Int) : Prop := l.length ≤ 30 ∧ ∀ x ∈ l, 0 ≤ x ∧ x ≤ 65535
end Go.Proofs.YtfkecgkfcldffaaGreatDoor
