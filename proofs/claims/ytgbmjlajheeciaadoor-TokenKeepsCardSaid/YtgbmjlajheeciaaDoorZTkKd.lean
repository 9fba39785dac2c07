/-
  The law TokenKeeps of a token that came in.
-/
import Derived.Test.YtgbmjlajheeciaaDoorZTkKb
namespace Go.Proofs.YtgbmjlajheeciaaDoor
set_option linter.unusedSimpArgs false
set_option linter.unusedVariables false
open Go.RowKit
set_option linter.unusedVariables false

theorem keeps_laid {w : World} (h : laidMetH Tryd.prog Rows.tokenKeepsRow.laid w) : tabT w := by
  unfold Rows.tokenKeepsRow at h
  rw [MakeChecks.laidMetH_plain _ _ _ (by kernel_rfl)] at h
  exact tabT_met (laidMet_tail2 (laidMet_tail2 h))
theorem keeps_law (k c m : Int) (a1 : Option Addr) (n1 c1 : Nat) (z1 : List Int) (s : ByteArray) (a2 : Option Addr) (n2 c2 : Nat) (z2 : List Int) (w : World) (h : TokIn w k c m a1 n1 c1 z1 s a2 n2 c2 z2) (hlaid : laidMetH Tryd.prog Rows.tokenKeepsRow.laid w) (hsh : w.ShapedOpen Tryd.prog) :
    Calls Tryd.prog 6 #[.agg #[.int .i64 k, .int .u8 c, .int .u8 m, .slice a1 n1 c1, .string s, .slice a2 n2 c2]] w fun e w' => e = .returned (.bool true) ∧ Gr w w' := by
  have K := tokIn_kit h (keeps_laid hlaid)
  obtain ⟨_, _, h3, h4, h5, _⟩ := h.rd
  unfold reachBytes at h4 h5
  exact keeps_walk K (keepKit K (by omega) (by omega) (keeps_laid hlaid)) (keeps_laid hlaid) (by omega) (by omega)
end Go.Proofs.YtgbmjlajheeciaaDoor
