/-
  DERIVED. GIVEN WITH THE SEED: THE CARDS: each row of YtfkecgkfcldffaaGreatDoorRows.lean that lists a variable, with what it lists TIED to the program's text (the seventh form; the later family's looks); each row that meets fmt, with fmt's text TOLD by the authors' own Lean function (tested against real Go, not proved from fmt's source: count such statements apart). THE CARD IS WHAT COUNTS. Prove the row's statement (the work); the ties are given (YtfkecgkfcldffaaGreatDoorTie.lean); close each card by the builder's one call (the guide's Derived/Test/ToyasCard.lean, 'card_holds'). Laid BY PROGRAM, IN A SANDBOX (cutbox-door.mjs). By AI agents, Wed Nov 11 2026. No macro, syntax, notation, axiom, sorry.
-/
import Derived.Test.YtfkecgkfcldffaaGreatDoorRows
import GoSem.ClaimSeven
namespace Go.Proofs.YtfkecgkfcldffaaGreatDoor
namespace Rows

/-- THE TIED CARD OF 'phosphorlaw19.StateCursors'. -/
def stateCursorsCard : Claim7 := { stood := { row := stateCursorsRow, standIns := [], harness := (true, "cc82f508a8b4f94bbf64eb3f89385f1cc23d73195dd6804d6f3017b0abc196da"), looks := false }, kinds := [], alts := [], laidByText := true, laidKinds := [.data, .data, .data, .data, .pinned], laidTests := true, laidLooks := .later }
def StateCursorsCardSaid : Prop := Claim7.holds Tryz.pinned (.plain (OpenSpec.ofChange stateCursorsSpec)) stateCursorsCard

/-- THE TIED CARD OF 'phosphorlaw19.StateBack'. -/
def stateBackCard : Claim7 := { stood := { row := stateBackRow, standIns := [], harness := (true, "cc82f508a8b4f94bbf64eb3f89385f1cc23d73195dd6804d6f3017b0abc196da"), looks := false }, kinds := [], alts := [], laidByText := true, laidKinds := [.data, .data, .data, .data, .pinned], laidTests := true, laidLooks := .later }
def StateBackCardSaid : Prop := Claim7.holds Tryz.pinned (.plain (OpenSpec.ofChange stateBackSpec)) stateBackCard

/-- THE SECOND FORM's CARD OF 'phosphorlaw19.StateCursors'. -/
def stateCursorsUptoCard : Claim7 := { stood := { row := stateCursorsUptoRow, standIns := [], harness := (true, "cc82f508a8b4f94bbf64eb3f89385f1cc23d73195dd6804d6f3017b0abc196da"), looks := false }, kinds := [], alts := [], laidByText := true, laidKinds := [.data, .data, .data, .data, .pinned], laidTests := true, laidLooks := .later }
def StateCursorsUptoCardSaid : Prop := Claim7.holds Tryz.pinned (.plain (OpenSpec.upto stateCursorsSpec)) stateCursorsUptoCard

/-- THE SECOND FORM's CARD OF 'phosphorlaw19.StateBack'. -/
def stateBackUptoCard : Claim7 := { stood := { row := stateBackUptoRow, standIns := [], harness := (true, "cc82f508a8b4f94bbf64eb3f89385f1cc23d73195dd6804d6f3017b0abc196da"), looks := false }, kinds := [], alts := [], laidByText := true, laidKinds := [.data, .data, .data, .data, .pinned], laidTests := true, laidLooks := .later }
def StateBackUptoCardSaid : Prop := Claim7.holds Tryz.pinned (.plain (OpenSpec.upto stateBackSpec)) stateBackUptoCard
end Rows
end Go.Proofs.YtfkecgkfcldffaaGreatDoor
