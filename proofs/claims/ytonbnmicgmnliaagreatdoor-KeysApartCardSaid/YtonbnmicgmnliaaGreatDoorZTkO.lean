/-
  Any two tokens: the document's Same, and the program's.
-/
import Derived.Deep.RegionHeld3
import Derived.Test.YtonbnmicgmnliaaGreatDoorZPdF
import Derived.Test.YtonbnmicgmnliaaGreatDoorZTkN
namespace Go.Proofs.YtonbnmicgmnliaaGreatDoor
set_option linter.unusedSimpArgs false
set_option linter.unusedVariables false
open Go.RowKit
set_option linter.unusedVariables false

theorem strOf_inj' {l l' : List Int} (h : ∀ c ∈ l, 0 ≤ c ∧ c < 256) (h' : ∀ c ∈ l', 0 ≤ c ∧ c < 256) (e : strOf l = strOf l') : l = l' := by
  have hb := byteCells_strOf l h
  rw [e, byteCells_strOf l' h'] at hb
  unfold bcells at hb
  exact (List.map_inj_right (fun a b hab => by injection hab)).1 hb.symm
theorem str_ne {l l' : List Int} (h : ∀ c ∈ l, 0 ≤ c ∧ c < 256) (h' : ∀ c ∈ l', 0 ≤ c ∧ c < 256) (e : l ≠ l') : ¬ (strOf l).toList = (strOf l').toList ∧ ((strOf l).toList == (strOf l').toList) = false := by
  have h1 : ¬ strOf l = strOf l' := fun e' => e (strOf_inj' h h' e')
  have h2 : ¬ (strOf l).toList = (strOf l').toList := fun e' => h1 ((bytes_inj _ _).1 e')
  exact ⟨h2, beq_eq_false_iff_ne.2 h2⟩

end Go.Proofs.YtonbnmicgmnliaaGreatDoor
