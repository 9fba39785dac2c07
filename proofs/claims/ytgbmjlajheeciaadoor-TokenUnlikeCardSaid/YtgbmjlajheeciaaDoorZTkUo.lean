/-
  The law TokenUnlike of two tokens that came in.
-/
import Derived.Test.YtgbmjlajheeciaaDoorZTkX
import Derived.Test.YtgbmjlajheeciaaDoorZTkUn
namespace Go.Proofs.YtgbmjlajheeciaaDoor
set_option linter.unusedSimpArgs false
set_option linter.unusedVariables false
open Go.RowKit
set_option linter.unusedVariables false

theorem unlike_laid {w : World} (h : laidMetH Tryd.prog Rows.tokenUnlikeRow.laid w) : tabT w := by
  unfold Rows.tokenUnlikeRow at h
  rw [MakeChecks.laidMetH_plain _ _ _ (by kernel_rfl)] at h
  exact tabT_met (laidMet_tail2 (laidMet_tail2 h))
theorem unlike_law (k c m : Int) (a1 : Option Addr) (n1 c1 : Nat) (z1 : List Int) (s : ByteArray) (a2 : Option Addr) (n2 c2 : Nat) (z2 : List Int) (k' c' m' : Int) (a1' : Option Addr) (n1' c1' : Nat) (z1' : List Int) (s' : ByteArray) (a2' : Option Addr) (n2' c2' : Nat) (z2' : List Int) (eight : Bool) (w : World)
    (h : TokIn w k c m a1 n1 c1 z1 s a2 n2 c2 z2) (h' : TokIn w k' c' m' a1' n1' c1' z1' s' a2' n2' c2' z2') (hlaid : laidMetH Tryd.prog Rows.tokenUnlikeRow.laid w) (hsh : w.ShapedOpen Tryd.prog) :
    Calls Tryd.prog 4 #[.agg #[.int .i64 k, .int .u8 c, .int .u8 m, .slice a1 n1 c1, .string s, .slice a2 n2 c2], .agg #[.int .i64 k', .int .u8 c', .int .u8 m', .slice a1' n1' c1', .string s', .slice a2' n2' c2'], .bool eight] w fun e w' => e = .returned (.bool true) ∧ Gr w w' :=
  unlike_walk eight (tokIn_kit h (unlike_laid hlaid)) (tokIn_kit h' (unlike_laid hlaid)) (unlike_laid hlaid)
end Go.Proofs.YtgbmjlajheeciaaDoor
