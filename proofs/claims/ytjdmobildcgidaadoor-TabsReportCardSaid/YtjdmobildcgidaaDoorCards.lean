/-
  DERIVED. GIVEN WITH THE SEED: THE CARDS: each row of YtjdmobildcgidaaDoorRows.lean that lists a variable, with what it lists TIED to the program's text (the seventh form; the later family's looks); each row that meets fmt, with fmt's text TOLD by the authors' own Lean function (tested against real Go, not proved from fmt's source: count such statements apart). THE CARD IS WHAT COUNTS. Prove the row's statement (the work); the ties are given (YtjdmobildcgidaaDoorTie.lean); close each card by the builder's one call (the guide's Derived/Test/ToyasCard.lean, 'card_holds'). Laid BY PROGRAM, IN A SANDBOX (cutbox-door.mjs). By AI agents, Wed Nov 11 2026. No macro, syntax, notation, axiom, sorry.
-/
import Derived.Test.YtjdmobildcgidaaDoorRows
import GoSem.ClaimSeven
namespace Go.Proofs.YtjdmobildcgidaaDoor
namespace Rows

/-- THE TIED CARD OF 'phosphorlaw06.TabsMove'. -/
def tabsMoveCard : Claim7 := { stood := { row := tabsMoveRow, standIns := [], harness := (true, "4ec73d454b9f78865433a10070fb9acd534ea07b9896d3e20732b1f9e45d8d81"), looks := false }, kinds := [], alts := [], laidByText := true, laidKinds := [.data, .data, .pinned], laidTests := true, laidLooks := .later }
def TabsMoveCardSaid : Prop := Claim7.holds Tryd.pinned (.plain (OpenSpec.ofChange tabsMoveSpec)) tabsMoveCard

/-- THE TIED CARD OF 'phosphorlaw06.TabsRound'. -/
def tabsRoundCard : Claim7 := { stood := { row := tabsRoundRow, standIns := [], harness := (true, "4ec73d454b9f78865433a10070fb9acd534ea07b9896d3e20732b1f9e45d8d81"), looks := false }, kinds := [], alts := [], laidByText := true, laidKinds := [.data, .data, .pinned], laidTests := true, laidLooks := .later }
def TabsRoundCardSaid : Prop := Claim7.holds Tryd.pinned (.plain (OpenSpec.ofChange tabsRoundSpec)) tabsRoundCard

/-- THE TIED CARD OF 'phosphorlaw06.TabsGrow'. -/
def tabsGrowCard : Claim7 := { stood := { row := tabsGrowRow, standIns := [], harness := (true, "4ec73d454b9f78865433a10070fb9acd534ea07b9896d3e20732b1f9e45d8d81"), looks := false }, kinds := [], alts := [], laidByText := true, laidKinds := [.data, .data, .pinned], laidTests := true, laidLooks := .later }
def TabsGrowCardSaid : Prop := Claim7.holds Tryd.pinned (.plain (OpenSpec.ofChange tabsGrowSpec)) tabsGrowCard

/-- THE TIED CARD OF 'phosphorlaw06.TabsKeeps'. -/
def tabsKeepsCard : Claim7 := { stood := { row := tabsKeepsRow, standIns := [], harness := (true, "4ec73d454b9f78865433a10070fb9acd534ea07b9896d3e20732b1f9e45d8d81"), looks := false }, kinds := [], alts := [], laidByText := true, laidKinds := [.data, .data, .pinned], laidTests := true, laidLooks := .later }
def TabsKeepsCardSaid : Prop := Claim7.holds Tryd.pinned (.plain (OpenSpec.ofChange tabsKeepsSpec)) tabsKeepsCard

/-- THE TIED CARD OF 'phosphorlaw06.TabsPlay'. -/
def tabsPlayCard : Claim7 := { stood := { row := tabsPlayRow, standIns := [], harness := (true, "4ec73d454b9f78865433a10070fb9acd534ea07b9896d3e20732b1f9e45d8d81"), looks := false }, kinds := [], alts := [], laidByText := true, laidKinds := [.data, .data, .pinned], laidTests := true, laidLooks := .later }
def TabsPlayCardSaid : Prop := Claim7.holds Tryd.pinned (.plain (OpenSpec.ofChange tabsPlaySpec)) tabsPlayCard

/-- THE TIED CARD OF 'phosphorlaw06.TabsReport'. -/
def tabsReportCard : Claim7 := { stood := { row := tabsReportRow, standIns := [], harness := (true, "4ec73d454b9f78865433a10070fb9acd534ea07b9896d3e20732b1f9e45d8d81"), looks := false }, kinds := [], alts := [], laidByText := true, laidKinds := [.data, .data, .data, .data, .pinned], laidTests := true, laidLooks := .later }
def TabsReportCardSaid : Prop := Claim7.holds Tryd.pinned (.plain (OpenSpec.ofChange tabsReportSpec)) tabsReportCard

/-- THE SECOND FORM's CARD OF 'phosphorlaw06.TabsMove'. -/
def tabsMoveUptoCard : Claim7 := { stood := { row := tabsMoveUptoRow, standIns := [], harness := (true, "4ec73d454b9f78865433a10070fb9acd534ea07b9896d3e20732b1f9e45d8d81"), looks := false }, kinds := [], alts := [], laidByText := true, laidKinds := [.data, .data, .pinned], laidTests := true, laidLooks := .later }
def TabsMoveUptoCardSaid : Prop := Claim7.holds Tryd.pinned (.plain (OpenSpec.upto tabsMoveSpec)) tabsMoveUptoCard

/-- THE SECOND FORM's CARD OF 'phosphorlaw06.TabsRound'. -/
def tabsRoundUptoCard : Claim7 := { stood := { row := tabsRoundUptoRow, standIns := [], harness := (true, "4ec73d454b9f78865433a10070fb9acd534ea07b9896d3e20732b1f9e45d8d81"), looks := false }, kinds := [], alts := [], laidByText := true, laidKinds := [.data, .data, .pinned], laidTests := true, laidLooks := .later }
def TabsRoundUptoCardSaid : Prop := Claim7.holds Tryd.pinned (.plain (OpenSpec.upto tabsRoundSpec)) tabsRoundUptoCard

/-- THE SECOND FORM's CARD OF 'phosphorlaw06.TabsGrow'. -/
def tabsGrowUptoCard : Claim7 := { stood := { row := tabsGrowUptoRow, standIns := [], harness := (true, "4ec73d454b9f78865433a10070fb9acd534ea07b9896d3e20732b1f9e45d8d81"), looks := false }, kinds := [], alts := [], laidByText := true, laidKinds := [.data, .data, .pinned], laidTests := true, laidLooks := .later }
def TabsGrowUptoCardSaid : Prop := Claim7.holds Tryd.pinned (.plain (OpenSpec.upto tabsGrowSpec)) tabsGrowUptoCard

/-- THE SECOND FORM's CARD OF 'phosphorlaw06.TabsKeeps'. -/
def tabsKeepsUptoCard : Claim7 := { stood := { row := tabsKeepsUptoRow, standIns := [], harness := (true, "4ec73d454b9f78865433a10070fb9acd534ea07b9896d3e20732b1f9e45d8d81"), looks := false }, kinds := [], alts := [], laidByText := true, laidKinds := [.data, .data, .pinned], laidTests := true, laidLooks := .later }
def TabsKeepsUptoCardSaid : Prop := Claim7.holds Tryd.pinned (.plain (OpenSpec.upto tabsKeepsSpec)) tabsKeepsUptoCard

/-- THE SECOND FORM's CARD OF 'phosphorlaw06.TabsPlay'. -/
def tabsPlayUptoCard : Claim7 := { stood := { row := tabsPlayUptoRow, standIns := [], harness := (true, "4ec73d454b9f78865433a10070fb9acd534ea07b9896d3e20732b1f9e45d8d81"), looks := false }, kinds := [], alts := [], laidByText := true, laidKinds := [.data, .data, .pinned], laidTests := true, laidLooks := .later }
def TabsPlayUptoCardSaid : Prop := Claim7.holds Tryd.pinned (.plain (OpenSpec.upto tabsPlaySpec)) tabsPlayUptoCard

/-- THE SECOND FORM's CARD OF 'phosphorlaw06.TabsReport'. -/
def tabsReportUptoCard : Claim7 := { stood := { row := tabsReportUptoRow, standIns := [], harness := (true, "4ec73d454b9f78865433a10070fb9acd534ea07b9896d3e20732b1f9e45d8d81"), looks := false }, kinds := [], alts := [], laidByText := true, laidKinds := [.data, .data, .data, .data, .pinned], laidTests := true, laidLooks := .later }
def TabsReportUptoCardSaid : Prop := Claim7.holds Tryd.pinned (.plain (OpenSpec.upto tabsReportSpec)) tabsReportUptoCard
end Rows
end Go.Proofs.YtjdmobildcgidaaDoor
