/-
  DERIVED. GIVEN WITH THE SEED: THE CARDS: each row of YtonbnmicgmnliaaGreatDoorRows.lean that lists a variable, with what it lists TIED to the program's text (the seventh form; the later family's looks); each row that meets fmt, with fmt's text TOLD by the authors' own Lean function (tested against real Go, not proved from fmt's source: count such statements apart). THE CARD IS WHAT COUNTS. Prove the row's statement (the work); the ties are given (YtonbnmicgmnliaaGreatDoorTie.lean); close each card by the builder's one call (the guide's Derived/Test/ToyasCard.lean, 'card_holds'). Laid BY PROGRAM, IN A SANDBOX (cutbox-door.mjs). By AI agents, Wed Nov 11 2026. No macro, syntax, notation, axiom, sorry.
-/
import Derived.Test.YtonbnmicgmnliaaGreatDoorRows
import GoSem.ClaimSeven
namespace Go.Proofs.YtonbnmicgmnliaaGreatDoor
namespace Rows

/-- THE TIED CARD OF 'phosphorlaw22.KeysApart'. -/
def keysApartCard : Claim7 := { stood := { row := keysApartRow, standIns := [], harness := (true, "423bcd118476ee1acb3088fb79b6dddec14df9b047565bbb98af1c6f0a0e5fcf"), looks := false }, kinds := [], alts := [], laidByText := true, laidKinds := [.data, .data, .data], laidTests := true, laidLooks := .later }
def KeysApartCardSaid : Prop := Claim7.holds Tryz.pinned (.plain (OpenSpec.ofChange keysApartSpec)) keysApartCard

/-- THE SECOND FORM's CARD OF 'phosphorlaw22.KeysApart'. -/
def keysApartUptoCard : Claim7 := { stood := { row := keysApartUptoRow, standIns := [], harness := (true, "423bcd118476ee1acb3088fb79b6dddec14df9b047565bbb98af1c6f0a0e5fcf"), looks := false }, kinds := [], alts := [], laidByText := true, laidKinds := [.data, .data, .data], laidTests := true, laidLooks := .later }
def KeysApartUptoCardSaid : Prop := Claim7.holds Tryz.pinned (.plain (OpenSpec.upto keysApartSpec)) keysApartUptoCard
end Rows
end Go.Proofs.YtonbnmicgmnliaaGreatDoor
