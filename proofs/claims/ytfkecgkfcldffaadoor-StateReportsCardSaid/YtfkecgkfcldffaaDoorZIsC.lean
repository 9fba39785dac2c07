/-
  What looking up a code computes, in both texts.
-/
import Derived.BigRegion
import Derived.Deep.RegionHeld3
import Derived.Test.YtfkecgkfcldffaaDoorZLw4
import Derived.Test.YtfkecgkfcldffaaDoorZIsA
namespace Go.Proofs.YtfkecgkfcldffaaDoor
set_option linter.unusedSimpArgs false
set_option linter.unusedVariables false
open Go.RowKit

def uL (gl : Int) : Int := selI (between 0 3 gl) gl 0
def uR (gr : Int) : Int := selI (between 0 3 gr) gr 2
theorem lleftU (g0 g1 g2 g3 gl gr si : Int) (w : World) :
    Calls Tryd.prog 66 #[.agg #[.int .i64 g0, .int .i64 g1, .int .i64 g2, .int .i64 g3, .int .i64 gl, .int .i64 gr, .int .i64 si]] w fun e w' => e = .returned (.int .i64 (uL gl)) ∧ Gr w w' := lleft_any g0 g1 g2 g3 gl gr si w
theorem lrightU (g0 g1 g2 g3 gl gr si : Int) (w : World) :
    Calls Tryd.prog 67 #[.agg #[.int .i64 g0, .int .i64 g1, .int .i64 g2, .int .i64 g3, .int .i64 gl, .int .i64 gr, .int .i64 si]] w fun e w' => e = .returned (.int .i64 (uR gr)) ∧ Gr w w' := lright_any g0 g1 g2 g3 gl gr si w

end Go.Proofs.YtfkecgkfcldffaaDoor
