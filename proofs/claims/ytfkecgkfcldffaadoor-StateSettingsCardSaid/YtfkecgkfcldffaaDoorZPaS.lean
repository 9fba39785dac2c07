/-
  A parser and its tokens in memory; what a step may change.
  A parser, its tokens and what a step leaves of them.
-/
import Derived.Test.YtfkecgkfcldffaaDoorZUp
import Derived.Test.YtfkecgkfcldffaaDoorZCm
import Derived.Test.YtfkecgkfcldffaaDoorZPaM
namespace Go.Proofs.YtfkecgkfcldffaaDoor
set_option linter.unusedSimpArgs false
set_option linter.unusedVariables false
set_option linter.unusedSectionVars false
open Go.RowKit
/-- The least block that the rows of a parser and its tokens may lie in. -/
class Bs where
  b : Nat
variable [Bs]

end Go.Proofs.YtfkecgkfcldffaaDoor

namespace Go.Proofs.YtfkecgkfcldffaaDoor
set_option linter.unusedSimpArgs false
set_option linter.unusedVariables false
set_option linter.unusedSectionVars false
open Go.RowKit
variable [Bs]

structure PS.ok (s : PS) : Prop where
  phase : 0 ≤ s.phase ∧ s.phase ≤ 4
  kind : 0 ≤ s.kind ∧ s.kind ≤ 9
  code : 0 ≤ s.code ∧ s.code < 256
  mark : 0 ≤ s.mark ∧ s.mark < 256
  inters : s.inters.length ≤ 3
  data : s.data.length ≤ 4096
  done : s.done.length ≤ 30
  now : 0 ≤ s.now ∧ s.now ≤ 65535

variable {lv lv' K : List Nat} {w w' : World} {p o : Nat} {s s' : PS} {iv dv av ov : Value} {ts : List Tok} {qs : List (Value × Value)}

end Go.Proofs.YtfkecgkfcldffaaDoor
