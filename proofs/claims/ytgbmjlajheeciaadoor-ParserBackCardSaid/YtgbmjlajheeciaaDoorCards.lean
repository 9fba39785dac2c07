/-
  DERIVED. GIVEN WITH THE SEED: THE CARDS: each row of YtgbmjlajheeciaaDoorRows.lean that lists a variable, with what it lists TIED to the program's text (the seventh form; the later family's looks); each row that meets fmt, with fmt's text TOLD by the authors' own Lean function (tested against real Go, not proved from fmt's source: count such statements apart). THE CARD IS WHAT COUNTS. Prove the row's statement (the work); the ties are given (YtgbmjlajheeciaaDoorTie.lean); close each card by the builder's one call (the guide's Derived/Test/ToyasCard.lean, 'card_holds'). Laid BY PROGRAM, IN A SANDBOX (cutbox-door.mjs). By AI agents, Wed Nov 11 2026. No macro, syntax, notation, axiom, sorry.
-/
import Derived.Test.YtgbmjlajheeciaaDoorRows
import GoSem.ClaimSeven
namespace Go.Proofs.YtgbmjlajheeciaaDoor
namespace Rows

/-- THE TIED CARD OF 'phosphorlaw11.TokenChecks'. -/
def tokenChecksCard : Claim7 := { stood := { row := tokenChecksRow, standIns := [], harness := (true, "d78fac03b1f362b72c532fc000e0a56f81866888e4a444c7d17d60e8e6ebb1fb"), looks := false }, kinds := [], alts := [], laidByText := true, laidKinds := [.data, .data, .data], laidTests := true, laidLooks := .later }
def TokenChecksCardSaid : Prop := Claim7.holds Tryd.pinned (.plain (OpenSpec.ofChange tokenChecksSpec)) tokenChecksCard

/-- THE TIED CARD OF 'phosphorlaw11.TokenUnlike'. -/
def tokenUnlikeCard : Claim7 := { stood := { row := tokenUnlikeRow, standIns := [], harness := (true, "d78fac03b1f362b72c532fc000e0a56f81866888e4a444c7d17d60e8e6ebb1fb"), looks := false }, kinds := [], alts := [], laidByText := true, laidKinds := [.data, .data, .data], laidTests := true, laidLooks := .later }
def TokenUnlikeCardSaid : Prop := Claim7.holds Tryd.pinned (.plain (OpenSpec.ofChange tokenUnlikeSpec)) tokenUnlikeCard

/-- THE TIED CARD OF 'phosphorlaw11.TokenFunctions'. -/
def tokenFunctionsCard : Claim7 := { stood := { row := tokenFunctionsRow, standIns := [], harness := (true, "d78fac03b1f362b72c532fc000e0a56f81866888e4a444c7d17d60e8e6ebb1fb"), looks := false }, kinds := [], alts := [], laidByText := true, laidKinds := [.data, .data, .data], laidTests := true, laidLooks := .later }
def TokenFunctionsCardSaid : Prop := Claim7.holds Tryd.pinned (.plain (OpenSpec.ofChange tokenFunctionsSpec)) tokenFunctionsCard

/-- THE TIED CARD OF 'phosphorlaw11.TokenKeeps'. -/
def tokenKeepsCard : Claim7 := { stood := { row := tokenKeepsRow, standIns := [], harness := (true, "d78fac03b1f362b72c532fc000e0a56f81866888e4a444c7d17d60e8e6ebb1fb"), looks := false }, kinds := [], alts := [], laidByText := true, laidKinds := [.data, .data, .data], laidTests := true, laidLooks := .later }
def TokenKeepsCardSaid : Prop := Claim7.holds Tryd.pinned (.plain (OpenSpec.ofChange tokenKeepsSpec)) tokenKeepsCard

/-- THE TIED CARD OF 'phosphorlaw12.ParserBack'. -/
def parserBackCard : Claim7 := { stood := { row := parserBackRow, standIns := [], harness := (true, "d78fac03b1f362b72c532fc000e0a56f81866888e4a444c7d17d60e8e6ebb1fb"), looks := false }, kinds := [], alts := [], laidByText := true, laidKinds := [.data, .data, .data], laidTests := true, laidLooks := .later }
def ParserBackCardSaid : Prop := Claim7.holds Tryd.pinned (.plain (OpenSpec.ofChange parserBackSpec)) parserBackCard

/-- THE SECOND FORM's CARD OF 'phosphorlaw11.TokenChecks'. -/
def tokenChecksUptoCard : Claim7 := { stood := { row := tokenChecksUptoRow, standIns := [], harness := (true, "d78fac03b1f362b72c532fc000e0a56f81866888e4a444c7d17d60e8e6ebb1fb"), looks := false }, kinds := [], alts := [], laidByText := true, laidKinds := [.data, .data, .data], laidTests := true, laidLooks := .later }
def TokenChecksUptoCardSaid : Prop := Claim7.holds Tryd.pinned (.plain (OpenSpec.upto tokenChecksSpec)) tokenChecksUptoCard

/-- THE SECOND FORM's CARD OF 'phosphorlaw11.TokenUnlike'. -/
def tokenUnlikeUptoCard : Claim7 := { stood := { row := tokenUnlikeUptoRow, standIns := [], harness := (true, "d78fac03b1f362b72c532fc000e0a56f81866888e4a444c7d17d60e8e6ebb1fb"), looks := false }, kinds := [], alts := [], laidByText := true, laidKinds := [.data, .data, .data], laidTests := true, laidLooks := .later }
def TokenUnlikeUptoCardSaid : Prop := Claim7.holds Tryd.pinned (.plain (OpenSpec.upto tokenUnlikeSpec)) tokenUnlikeUptoCard

/-- THE SECOND FORM's CARD OF 'phosphorlaw11.TokenFunctions'. -/
def tokenFunctionsUptoCard : Claim7 := { stood := { row := tokenFunctionsUptoRow, standIns := [], harness := (true, "d78fac03b1f362b72c532fc000e0a56f81866888e4a444c7d17d60e8e6ebb1fb"), looks := false }, kinds := [], alts := [], laidByText := true, laidKinds := [.data, .data, .data], laidTests := true, laidLooks := .later }
def TokenFunctionsUptoCardSaid : Prop := Claim7.holds Tryd.pinned (.plain (OpenSpec.upto tokenFunctionsSpec)) tokenFunctionsUptoCard

/-- THE SECOND FORM's CARD OF 'phosphorlaw11.TokenKeeps'. -/
def tokenKeepsUptoCard : Claim7 := { stood := { row := tokenKeepsUptoRow, standIns := [], harness := (true, "d78fac03b1f362b72c532fc000e0a56f81866888e4a444c7d17d60e8e6ebb1fb"), looks := false }, kinds := [], alts := [], laidByText := true, laidKinds := [.data, .data, .data], laidTests := true, laidLooks := .later }
def TokenKeepsUptoCardSaid : Prop := Claim7.holds Tryd.pinned (.plain (OpenSpec.upto tokenKeepsSpec)) tokenKeepsUptoCard

/-- THE SECOND FORM's CARD OF 'phosphorlaw12.ParserBack'. -/
def parserBackUptoCard : Claim7 := { stood := { row := parserBackUptoRow, standIns := [], harness := (true, "d78fac03b1f362b72c532fc000e0a56f81866888e4a444c7d17d60e8e6ebb1fb"), looks := false }, kinds := [], alts := [], laidByText := true, laidKinds := [.data, .data, .data], laidTests := true, laidLooks := .later }
def ParserBackUptoCardSaid : Prop := Claim7.holds Tryd.pinned (.plain (OpenSpec.upto parserBackSpec)) parserBackUptoCard
end Rows
end Go.Proofs.YtgbmjlajheeciaaDoor
