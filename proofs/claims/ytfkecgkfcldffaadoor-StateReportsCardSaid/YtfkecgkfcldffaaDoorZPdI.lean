/-
  A row of tokens told one by one, walked; parsers side by side.
-/
import Derived.Lib.SlBytesConst
import Derived.Maps.AppendAt
import Derived.Test.YtfkecgkfcldffaaDoorZPcI
import Derived.Test.YtfkecgkfcldffaaDoorZPdC
namespace Go.Proofs.YtfkecgkfcldffaaDoor
set_option linter.unusedSimpArgs false
set_option linter.unusedVariables false
open Go.RowKit

/-! ### Parsers side by side -/
theorem Stp.sub {lv lv' lv2 : List Nat} {w w' : World} (h : Stp lv w lv' w') (hs : ∀ k ∈ lv2, k ∈ lv') : Stp lv w lv2 w' := ⟨h.upd, fun k hk => h.new k (hs k hk)⟩
end Go.Proofs.YtfkecgkfcldffaaDoor
