/-
  Tab stops: the code of played's great region, taken out of the program's form by a function.
-/
import Derived.Test.YtjdmobildcgidaaDoorTbQ
namespace Go.Proofs.YtjdmobildcgidaaDoor
set_option linter.unusedSimpArgs false
set_option linter.unusedVariables false
def regionIn (k : Nat) : Code → Option Code
  | .region i ops b => if i == k then some (.region i ops b) else none
  | .loop c => regionIn k c
  | .seq a b => match regionIn k a with
    | some c => some c
    | none => regionIn k b
  | .block _ c => regionIn k c
  | .scope c => regionIn k c
  | .cond _ a b => match regionIn k a with
    | some c => some c
    | none => regionIn k b
  | _ => none
noncomputable def code27 : Code := ((Tryd.f10.body.bind (regionIn 27)).getD .skip)
end Go.Proofs.YtjdmobildcgidaaDoor
