/-
  Tab stops: the library's table as the card lays it.
-/
import Derived.Test.YtjdmobildcgidaaDoorTbS
import Derived.Test.YtjdmobildcgidaaDoorRows
import Derived.MakeChecks
namespace Go.Proofs.YtjdmobildcgidaaDoor
set_option linter.unusedSimpArgs false
set_option linter.unusedVariables false
open Go.RowKit
set_option linter.unusedVariables false
theorem tabOk_of {w : World} {rest : List (String × DataW Unit)} (hd : (rest.all fun x => x.2.handleName?.isNone) = true) (h : laidMetH Tryd.prog (("math/bits.deBruijn64tab", Rows.laid_math_bits_deBruijn64tab) :: rest) w) : TabOk w := by
  rw [MakeChecks.laidMetH_plain _ _ _ (by simp only [List.all_cons, hd, Bool.and_true]; rfl)] at h
  have ht := tabIs_head2 (g := 0) (k := .u8) (zs := Lib.deBruijn64tab.map fun (n : Nat) => (n : Int)) (by rfl) (by kernel_rfl) (by kernel_rfl) Tryd.underlying70 (by kernel_rfl) (by kernel_rfl) (by kernel_rfl) h
  intro j hj
  have := ht.cell (g := 0) (by kernel_rfl) j (by simpa using hj)
  rw [this]
  congr 2
  simp only [List.getD_eq_getElem?_getD, List.getElem?_map]
  rw [List.getElem?_eq_getElem hj]
  rfl
end Go.Proofs.YtjdmobildcgidaaDoor
