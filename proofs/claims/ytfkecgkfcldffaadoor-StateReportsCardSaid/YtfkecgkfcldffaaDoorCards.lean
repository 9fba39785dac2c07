/-
  DERIVED. GIVEN WITH THE SEED: THE CARDS: each row of YtfkecgkfcldffaaDoorRows.lean that lists a variable, with what it lists TIED to the program's text (the seventh form; the later family's looks); each row that meets fmt, with fmt's text TOLD by the authors' own Lean function (tested against real Go, not proved from fmt's source: count such statements apart). THE CARD IS WHAT COUNTS. Prove the row's statement (the work); the ties are given (YtfkecgkfcldffaaDoorTie.lean); close each card by the builder's one call (the guide's Derived/Test/ToyasCard.lean, 'card_holds'). Laid BY PROGRAM, IN A SANDBOX (cutbox-door.mjs). By AI agents, Wed Nov 11 2026. No macro, syntax, notation, axiom, sorry.
-/
import Derived.Test.YtfkecgkfcldffaaDoorRows
import GoSem.ClaimSeven
namespace Go.Proofs.YtfkecgkfcldffaaDoor
namespace Rows

/-- THE TIED CARD OF 'phosphorlaw19.StateCleans'. -/
def stateCleansCard : Claim7 := { stood := { row := stateCleansRow, standIns := [], harness := (true, "aeb27062ef197bff8307b72c26dc0ba1740243987ca322f20821708f64706cf2"), looks := false }, kinds := [], alts := [], laidByText := true, laidKinds := [.data, .data, .data], laidTests := true, laidLooks := .later }
def StateCleansCardSaid : Prop := Claim7.holds Tryd.pinned (.plain (OpenSpec.ofChange stateCleansSpec)) stateCleansCard

/-- THE TIED CARD OF 'phosphorlaw19.StateSettings'. -/
def stateSettingsCard : Claim7 := { stood := { row := stateSettingsRow, standIns := [], harness := (true, "aeb27062ef197bff8307b72c26dc0ba1740243987ca322f20821708f64706cf2"), looks := false }, kinds := [], alts := [], laidByText := true, laidKinds := [.data, .data, .data], laidTests := true, laidLooks := .later }
def StateSettingsCardSaid : Prop := Claim7.holds Tryd.pinned (.plain (OpenSpec.ofChange stateSettingsSpec)) stateSettingsCard

/-- THE TIED CARD OF 'phosphorlaw19.StateReports'. -/
def stateReportsCard : Claim7 := { stood := { row := stateReportsRow, standIns := [], harness := (true, "aeb27062ef197bff8307b72c26dc0ba1740243987ca322f20821708f64706cf2"), looks := false }, kinds := [], alts := [], laidByText := true, laidKinds := [.data, .data, .data], laidTests := true, laidLooks := .later }
def StateReportsCardSaid : Prop := Claim7.holds Tryd.pinned (.plain (OpenSpec.ofChange stateReportsSpec)) stateReportsCard

/-- THE SECOND FORM's CARD OF 'phosphorlaw19.StateCleans'. -/
def stateCleansUptoCard : Claim7 := { stood := { row := stateCleansUptoRow, standIns := [], harness := (true, "aeb27062ef197bff8307b72c26dc0ba1740243987ca322f20821708f64706cf2"), looks := false }, kinds := [], alts := [], laidByText := true, laidKinds := [.data, .data, .data], laidTests := true, laidLooks := .later }
def StateCleansUptoCardSaid : Prop := Claim7.holds Tryd.pinned (.plain (OpenSpec.upto stateCleansSpec)) stateCleansUptoCard

/-- THE SECOND FORM's CARD OF 'phosphorlaw19.StateSettings'. -/
def stateSettingsUptoCard : Claim7 := { stood := { row := stateSettingsUptoRow, standIns := [], harness := (true, "aeb27062ef197bff8307b72c26dc0ba1740243987ca322f20821708f64706cf2"), looks := false }, kinds := [], alts := [], laidByText := true, laidKinds := [.data, .data, .data], laidTests := true, laidLooks := .later }
def StateSettingsUptoCardSaid : Prop := Claim7.holds Tryd.pinned (.plain (OpenSpec.upto stateSettingsSpec)) stateSettingsUptoCard

/-- THE SECOND FORM's CARD OF 'phosphorlaw19.StateReports'. -/
def stateReportsUptoCard : Claim7 := { stood := { row := stateReportsUptoRow, standIns := [], harness := (true, "aeb27062ef197bff8307b72c26dc0ba1740243987ca322f20821708f64706cf2"), looks := false }, kinds := [], alts := [], laidByText := true, laidKinds := [.data, .data, .data], laidTests := true, laidLooks := .later }
def StateReportsUptoCardSaid : Prop := Claim7.holds Tryd.pinned (.plain (OpenSpec.upto stateReportsSpec)) stateReportsUptoCard
end Rows
end Go.Proofs.YtfkecgkfcldffaaDoor
