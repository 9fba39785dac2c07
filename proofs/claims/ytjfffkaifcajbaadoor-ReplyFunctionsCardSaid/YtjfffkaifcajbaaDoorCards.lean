/-
  DERIVED. GIVEN WITH THE SEED: THE CARDS: each row of YtjfffkaifcajbaaDoorRows.lean that lists a variable, with what it lists TIED to the program's text (the seventh form; the later family's looks); each row that meets fmt, with fmt's text TOLD by the authors' own Lean function (tested against real Go, not proved from fmt's source: count such statements apart). THE CARD IS WHAT COUNTS. Prove the row's statement (the work); the ties are given (YtjfffkaifcajbaaDoorTie.lean); close each card by the builder's one call (the guide's Derived/Test/ToyasCard.lean, 'card_holds'). Laid BY PROGRAM, IN A SANDBOX (cutbox-door.mjs). By AI agents, Wed Nov 11 2026. No macro, syntax, notation, axiom, sorry.
-/
import Derived.Test.YtjfffkaifcajbaaDoorRows
import GoSem.ClaimSeven
namespace Go.Proofs.YtjfffkaifcajbaaDoor
namespace Rows

/-- THE TIED CARD OF 'phosphorlaw18.ReplyHex'. -/
def replyHexCard : Claim7 := { stood := { row := replyHexRow, standIns := [], harness := (true, "07c10a2b2c5aa5c516ebbfdf236aa33d7f99ae88d163d9aa4f20c89ffde5242e"), looks := false }, kinds := [], alts := [], laidByText := true, laidKinds := [.data, .data, .data], laidTests := true, laidLooks := .later }
def ReplyHexCardSaid : Prop := Claim7.holds Tryd.pinned (.plain (OpenSpec.ofChange replyHexSpec)) replyHexCard

/-- THE TIED CARD OF 'phosphorlaw18.ReplyTells'. -/
def replyTellsCard : Claim7 := { stood := { row := replyTellsRow, standIns := [], harness := (true, "07c10a2b2c5aa5c516ebbfdf236aa33d7f99ae88d163d9aa4f20c89ffde5242e"), looks := false }, kinds := [], alts := [], laidByText := true, laidKinds := [.data, .data, .data], laidTests := true, laidLooks := .later }
def ReplyTellsCardSaid : Prop := Claim7.holds Tryd.pinned (.plain (OpenSpec.ofChange replyTellsSpec)) replyTellsCard

/-- THE TIED CARD OF 'phosphorlaw18.ReplyFunctions'. -/
def replyFunctionsCard : Claim7 := { stood := { row := replyFunctionsRow, standIns := [], harness := (true, "07c10a2b2c5aa5c516ebbfdf236aa33d7f99ae88d163d9aa4f20c89ffde5242e"), looks := false }, kinds := [], alts := [], laidByText := true, laidKinds := [.data, .data, .data], laidTests := true, laidLooks := .later }
def ReplyFunctionsCardSaid : Prop := Claim7.holds Tryd.pinned (.plain (OpenSpec.ofChange replyFunctionsSpec)) replyFunctionsCard

/-- THE TIED CARD OF 'phosphorlaw18.ReplyPlaces'. -/
def replyPlacesCard : Claim7 := { stood := { row := replyPlacesRow, standIns := [], harness := (true, "07c10a2b2c5aa5c516ebbfdf236aa33d7f99ae88d163d9aa4f20c89ffde5242e"), looks := false }, kinds := [], alts := [], laidByText := true, laidKinds := [.data, .data, .data], laidTests := true, laidLooks := .later }
def ReplyPlacesCardSaid : Prop := Claim7.holds Tryd.pinned (.plain (OpenSpec.ofChange replyPlacesSpec)) replyPlacesCard

/-- THE SECOND FORM's CARD OF 'phosphorlaw18.ReplyHex'. -/
def replyHexUptoCard : Claim7 := { stood := { row := replyHexUptoRow, standIns := [], harness := (true, "07c10a2b2c5aa5c516ebbfdf236aa33d7f99ae88d163d9aa4f20c89ffde5242e"), looks := false }, kinds := [], alts := [], laidByText := true, laidKinds := [.data, .data, .data], laidTests := true, laidLooks := .later }
def ReplyHexUptoCardSaid : Prop := Claim7.holds Tryd.pinned (.plain (OpenSpec.upto replyHexSpec)) replyHexUptoCard

/-- THE SECOND FORM's CARD OF 'phosphorlaw18.ReplyTells'. -/
def replyTellsUptoCard : Claim7 := { stood := { row := replyTellsUptoRow, standIns := [], harness := (true, "07c10a2b2c5aa5c516ebbfdf236aa33d7f99ae88d163d9aa4f20c89ffde5242e"), looks := false }, kinds := [], alts := [], laidByText := true, laidKinds := [.data, .data, .data], laidTests := true, laidLooks := .later }
def ReplyTellsUptoCardSaid : Prop := Claim7.holds Tryd.pinned (.plain (OpenSpec.upto replyTellsSpec)) replyTellsUptoCard

/-- THE SECOND FORM's CARD OF 'phosphorlaw18.ReplyFunctions'. -/
def replyFunctionsUptoCard : Claim7 := { stood := { row := replyFunctionsUptoRow, standIns := [], harness := (true, "07c10a2b2c5aa5c516ebbfdf236aa33d7f99ae88d163d9aa4f20c89ffde5242e"), looks := false }, kinds := [], alts := [], laidByText := true, laidKinds := [.data, .data, .data], laidTests := true, laidLooks := .later }
def ReplyFunctionsUptoCardSaid : Prop := Claim7.holds Tryd.pinned (.plain (OpenSpec.upto replyFunctionsSpec)) replyFunctionsUptoCard

/-- THE SECOND FORM's CARD OF 'phosphorlaw18.ReplyPlaces'. -/
def replyPlacesUptoCard : Claim7 := { stood := { row := replyPlacesUptoRow, standIns := [], harness := (true, "07c10a2b2c5aa5c516ebbfdf236aa33d7f99ae88d163d9aa4f20c89ffde5242e"), looks := false }, kinds := [], alts := [], laidByText := true, laidKinds := [.data, .data, .data], laidTests := true, laidLooks := .later }
def ReplyPlacesUptoCardSaid : Prop := Claim7.holds Tryd.pinned (.plain (OpenSpec.upto replyPlacesSpec)) replyPlacesUptoCard
end Rows
end Go.Proofs.YtjfffkaifcajbaaDoor
