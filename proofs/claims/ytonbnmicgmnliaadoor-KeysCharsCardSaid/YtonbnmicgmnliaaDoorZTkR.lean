/-
  A sequence's id, in both texts.
-/
import Derived.Test.YtonbnmicgmnliaaDoorZTkQ
import Derived.Test.YtonbnmicgmnliaaDoorZOrd6
namespace Go.Proofs.YtonbnmicgmnliaaDoor
set_option linter.unusedSimpArgs false
set_option linter.unusedVariables false
open Go.RowKit
set_option linter.unusedVariables false

theorem conv_own8 {w : World} {B n : Nat} {v : Value} {xs : List Value} {l : List Int} (h : w.ownsRow B 5 1 v n xs) (hx : xs = bcells l) : (convert 35 9 v).run Tryd.prog w = .ok (.string (strOf l)) w := by
  subst hx; exact conv_row (HasRow.of_own h)
end Go.Proofs.YtonbnmicgmnliaaDoor
