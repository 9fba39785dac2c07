/-
  Keys with texts: the law UdkFull, walked.
-/
import Derived.Test.YtdfohcnejdhkiaaDoorZUdI
namespace Go.Proofs.YtdfohcnejdhkiaaDoor
set_option linter.unusedSimpArgs false
set_option linter.unusedVariables false
open Go.RowKit
set_option linter.unusedVariables false

theorem MaxOk.of {w : World} (h : w.ShapedOpen Tryd.prog) : MaxOk w := Tryd.laysM145.s1_3 w h
end Go.Proofs.YtdfohcnejdhkiaaDoor
