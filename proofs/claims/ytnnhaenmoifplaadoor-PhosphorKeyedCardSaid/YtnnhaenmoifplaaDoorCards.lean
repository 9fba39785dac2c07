/-
  DERIVED. GIVEN WITH THE SEED: THE CARDS: each row of YtnnhaenmoifplaaDoorRows.lean that lists a variable, with what it lists TIED to the program's text (the seventh form; the later family's looks); each row that meets fmt, with fmt's text TOLD by the authors' own Lean function (tested against real Go, not proved from fmt's source: count such statements apart). THE CARD IS WHAT COUNTS. Prove the row's statement (the work); the ties are given (YtnnhaenmoifplaaDoorTie.lean); close each card by the builder's one call (the guide's Derived/Test/ToyasCard.lean, 'card_holds'). Laid BY PROGRAM, IN A SANDBOX (cutbox-door.mjs). By AI agents, Wed Nov 11 2026. No macro, syntax, notation, axiom, sorry.
-/
import Derived.Test.YtnnhaenmoifplaaDoorRows
import GoSem.ClaimSeven
namespace Go.Proofs.YtnnhaenmoifplaaDoor
namespace Rows

/-- THE TIED CARD OF 'phosphortop.PhosphorKeyed'. -/
def phosphorKeyedCard : Claim7 := { stood := { row := phosphorKeyedRow, standIns := [], harness := (true, "02b35f2da2479600e11e71009d6c34c9fed93461e8d5e95db4660b82f5562bef"), looks := false }, kinds := [], alts := [], laidByText := true, laidKinds := [.data, .data, .data], laidTests := true, laidLooks := .later }
def PhosphorKeyedCardSaid : Prop := Claim7.holds Tryd.pinned (.plain (OpenSpec.ofChange phosphorKeyedSpec)) phosphorKeyedCard

/-- THE SECOND FORM's CARD OF 'phosphortop.PhosphorKeyed'. -/
def phosphorKeyedUptoCard : Claim7 := { stood := { row := phosphorKeyedUptoRow, standIns := [], harness := (true, "02b35f2da2479600e11e71009d6c34c9fed93461e8d5e95db4660b82f5562bef"), looks := false }, kinds := [], alts := [], laidByText := true, laidKinds := [.data, .data, .data], laidTests := true, laidLooks := .later }
def PhosphorKeyedUptoCardSaid : Prop := Claim7.holds Tryd.pinned (.plain (OpenSpec.upto phosphorKeyedSpec)) phosphorKeyedUptoCard
end Rows
end Go.Proofs.YtnnhaenmoifplaaDoor
