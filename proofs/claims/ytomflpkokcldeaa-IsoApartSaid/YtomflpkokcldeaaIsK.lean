/-
  The law on left and right apart.
-/
import Derived.Test.YtomflpkokcldeaaIsI0
import Derived.Test.YtomflpkokcldeaaIsI1
import Derived.Test.YtomflpkokcldeaaIsI2
import Derived.Test.YtomflpkokcldeaaIsI3
import Derived.Test.YtomflpkokcldeaaIsJ
namespace Go.Proofs.Ytomflpkokcldeaa
set_option linter.unusedSimpArgs false
set_option linter.unusedVariables false
open Go.RowKit

theorem apart_law (g0 g1 g2 g3 gl gr si a b : Int) (w : World) :
    Calls Try.prog 4 #[.agg #[.int .i64 g0, .int .i64 g1, .int .i64 g2, .int .i64 g3, .int .i64 gl, .int .i64 gr, .int .i64 si], .int .i64 a, .int .i64 b] w fun e w' => e = .returned (.bool true) ∧ Gr w w' := by
  rcases (by omega : a = 0 ∨ a = 1 ∨ a = 2 ∨ a = 3 ∨ a < 0 ∨ 3 < a) with rfl | rfl | rfl | rfl | h | h
  · exact apart_0 g0 g1 g2 g3 gl gr si b w
  · exact apart_1 g0 g1 g2 g3 gl gr si b w
  · exact apart_2 g0 g1 g2 g3 gl gr si b w
  · exact apart_3 g0 g1 g2 g3 gl gr si b w
  · exact apart_lo g0 g1 g2 g3 gl gr si a b w h
  · exact apart_hi g0 g1 g2 g3 gl gr si a b w h
end Go.Proofs.Ytomflpkokcldeaa
