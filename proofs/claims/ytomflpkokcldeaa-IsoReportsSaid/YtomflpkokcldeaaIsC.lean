/-
  What looking up a code computes, in both texts.
-/
import Derived.Test.YtomflpkokcldeaaIsB
namespace Go.Proofs.Ytomflpkokcldeaa
set_option linter.unusedSimpArgs false
set_option linter.unusedVariables false
open Go.RowKit

def gAt (g0 g1 g2 g3 a : Int) : Int := if a = 0 then g0 else if a = 1 then g1 else if a = 2 then g2 else g3
def uL (gl : Int) : Int := selI (between 0 3 gl) gl 0
def uR (gr : Int) : Int := selI (between 0 3 gr) gr 2
def mapAt (gl gr si c : Int) : Int := selI (between 2 3 si) si (selI (decide (128 ≤ c)) (uR gr) (uL gl))
def mapRune (g0 g1 g2 g3 gl gr si c : Int) : Int := selI (decide (c % 128 < 32)) 0 (Gl (gAt g0 g1 g2 g3 (mapAt gl gr si c)) (c % 128))

theorem rglyphG (n c : Int) (w : World) (h0 : 0 ≤ c) (h1 : c < 256) :
    Calls Try.prog 29 #[.int .i64 n, .int .u8 c] w fun e w' => e = .returned (.int .i32 (Gl n (c % 128))) ∧ Gr w w' := by
  rw [gl_eq n (c % 128) (by omega) (by omega)]
  exact rglyph_any n c w h0 h1
theorem usedU (g0 g1 g2 g3 gl gr si : Int) (w : World) :
    Calls Try.prog 21 #[.agg #[.int .i64 g0, .int .i64 g1, .int .i64 g2, .int .i64 g3, .int .i64 gl, .int .i64 gr, .int .i64 si]] w fun e w' => e = .returned (.tuple #[.int .i64 (uL gl), .int .i64 (uR gr)]) ∧ Gr w w' := used_any g0 g1 g2 g3 gl gr si w
theorem lleftU (g0 g1 g2 g3 gl gr si : Int) (w : World) :
    Calls Try.prog 26 #[.agg #[.int .i64 g0, .int .i64 g1, .int .i64 g2, .int .i64 g3, .int .i64 gl, .int .i64 gr, .int .i64 si]] w fun e w' => e = .returned (.int .i64 (uL gl)) ∧ Gr w w' := lleft_any g0 g1 g2 g3 gl gr si w
theorem lrightU (g0 g1 g2 g3 gl gr si : Int) (w : World) :
    Calls Try.prog 27 #[.agg #[.int .i64 g0, .int .i64 g1, .int .i64 g2, .int .i64 g3, .int .i64 gl, .int .i64 gr, .int .i64 si]] w fun e w' => e = .returned (.int .i64 (uR gr)) ∧ Gr w w' := lright_any g0 g1 g2 g3 gl gr si w

end Go.Proofs.Ytomflpkokcldeaa
