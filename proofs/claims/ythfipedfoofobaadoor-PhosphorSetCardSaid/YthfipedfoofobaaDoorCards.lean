/-
  DERIVED. GIVEN WITH THE SEED: THE CARDS: each row of YthfipedfoofobaaDoorRows.lean that lists a variable, with what it lists TIED to the program's text (the seventh form; the later family's looks); each row that meets fmt, with fmt's text TOLD by the authors' own Lean function (tested against real Go, not proved from fmt's source: count such statements apart). THE CARD IS WHAT COUNTS. Prove the row's statement (the work); the ties are given (YthfipedfoofobaaDoorTie.lean); close each card by the builder's one call (the guide's Derived/Test/ToyasCard.lean, 'card_holds'). Laid BY PROGRAM, IN A SANDBOX (cutbox-door.mjs). By AI agents, Wed Nov 11 2026. No macro, syntax, notation, axiom, sorry.
-/
import Derived.Test.YthfipedfoofobaaDoorRows
import GoSem.ClaimSeven
namespace Go.Proofs.YthfipedfoofobaaDoor
namespace Rows

/-- THE TIED CARD OF 'phosphortop.PhosphorSet'. -/
def phosphorSetCard : Claim7 := { stood := { row := phosphorSetRow, standIns := [], harness := (true, "cbc4953b4f67a955c562dc56b4ab9e826130f474021b88f7858dfeb8828ca9ca"), looks := false }, kinds := [], alts := [], laidByText := true, laidKinds := [.data, .data, .data], laidTests := true, laidLooks := .later }
def PhosphorSetCardSaid : Prop := Claim7.holds Tryd.pinned (.plain (OpenSpec.ofChange phosphorSetSpec)) phosphorSetCard

/-- THE SECOND FORM's CARD OF 'phosphortop.PhosphorSet'. -/
def phosphorSetUptoCard : Claim7 := { stood := { row := phosphorSetUptoRow, standIns := [], harness := (true, "cbc4953b4f67a955c562dc56b4ab9e826130f474021b88f7858dfeb8828ca9ca"), looks := false }, kinds := [], alts := [], laidByText := true, laidKinds := [.data, .data, .data], laidTests := true, laidLooks := .later }
def PhosphorSetUptoCardSaid : Prop := Claim7.holds Tryd.pinned (.plain (OpenSpec.upto phosphorSetSpec)) phosphorSetUptoCard
end Rows
end Go.Proofs.YthfipedfoofobaaDoor
