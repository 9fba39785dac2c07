/-
  A law over any program: a region that draws its order, by facts that may name the slots of several operations, whatever order is drawn.
-/
import Derived.Test.YtdfohcnejdhkiaaDoorZOrd
namespace Go.Proofs.YtdfohcnejdhkiaaDoor
set_option linter.unusedSimpArgs false
set_option linter.unusedVariables false
open Go.RowKit

def setY (ys : Nat → Value) (i : Nat) (v : Value) : Nat → Value := fun j => if j = i then v else ys j
theorem setY_at (ys : Nat → Value) (i : Nat) (v : Value) : setY ys i v i = v := by simp [setY]
section
variable {P : Program} {md : Region.Mode} {ops : Array Oper} {Q : Exit → Act → World → Prop}

def LAll (md : Region.Mode) (L : Nat → Prop) : List Edge → Prop
  | [] => True
  | e :: l => (Region.binds md e = true → L e.on) ∧ LAll md L l
theorem LAll.of {L : Nat → Prop} : ∀ {l : List Edge}, (∀ e ∈ l, Region.binds md e = true → L e.on) → LAll md L l
  | [], _ => trivial
  | e :: l, h => ⟨h e (by simp), LAll.of fun e' he' => h e' (by simp [he'])⟩

end
end Go.Proofs.YtdfohcnejdhkiaaDoor
