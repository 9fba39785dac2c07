/-
  No cell of these rows narrows 'for every input' (looked for: loops, veiled, ifaces, maps, wideKeys, modest, calm, conditions, laid).
  DERIVED. THE GIVEN ROWS OF THIS SEAT. 5 by the template 'for every input the law returns true; each argument reads behind the call as it read before'; 0 by the template 'total and deterministic' (their statements: YtcifagnepnjejaaTotals.lean).
  GIVEN WITH THE SEED: the statements are not yours to turn. If you find one false, say at which input.
  Laid BY PROGRAM, IN A SANDBOX (cutbox-rows.mjs): the forced cells as the released guide's own fill.sh prints them over the translation f2df3cc954974859… (all of the seat's roots in one cut). By AI agents, Wed Nov 11 2026. No macro, syntax, notation, axiom, sorry.
-/
import Derived.Test.YtcifagnepnjejaaChecked
import GoSem.Claim
import GoSem.ClaimJoined
import GoSem.ClaimMapViews
import Derived.JoinedTies
import Derived.KernelRfl
namespace Go.Proofs.Ytcifagnepnjejaa
/- THE CELL 'sum', in the pinned program and in every row, IS THE sha256 OF THE DUMP (.gsa) THAT YtcifagnepnjejaaProg.lean LOADS. Nothing in Lean hashes anything: it is a label: what it is worth is what the hold of that sum in a sandbox is worth. -/
noncomputable def Try.pinned : Pinned := { name := "ytcifagnepnjejaa", sum := "f2df3cc9549748595773f6ce8849c0e4a0448d2ec068ca514d7391ead8cac3cc", checked := Try.checked }
namespace Rows
def none {H : Type} : Left H := { results := [], args := [] }

/-- 'phosphorlaw09.CharsetGlyphs': WHATEVER THE INPUT: true; the input reads as it did. -/
def charsetGlyphsSpec : ChangeSpec := { name := "charsetGlyphs", fn := fun _ => fun
  | [d1, d2] => { results := [.lit (.bool true)], args := [d1, d2] }
  | _ => none }
def charsetGlyphsRow : OpenClaim := { program := "ytcifagnepnjejaa", sum := "f2df3cc9549748595773f6ce8849c0e4a0448d2ec068ca514d7391ead8cac3cc", func := "phosphor/phosphorlaw09.CharsetGlyphs", spec := "charsetGlyphs", inPlace := ["internal/bytealg.IndexByteString"], apart := false }
def CharsetGlyphsSaid : Prop := charsetGlyphsRow.holds Try.pinned (OpenSpec.ofChange charsetGlyphsSpec)

/-- ITS FALSE NEIGHBOUR: 'it returns false'. Refute it at one input. -/
def charsetGlyphsWrong : ChangeSpec := { name := "charsetGlyphs", fn := fun _ => fun
  | [d1, d2] => { results := [.lit (.bool false)], args := [d1, d2] }
  | _ => none }
def CharsetGlyphsWrongFalsely : Prop := charsetGlyphsRow.holds Try.pinned (OpenSpec.ofChange charsetGlyphsWrong)

/-- 'phosphorlaw09.CharsetNations': WHATEVER THE INPUT: true; the input reads as it did. -/
def charsetNationsSpec : ChangeSpec := { name := "charsetNations", fn := fun _ => fun
  | [d] => { results := [.lit (.bool true)], args := [d] }
  | _ => none }
def charsetNationsRow : OpenClaim := { program := "ytcifagnepnjejaa", sum := "f2df3cc9549748595773f6ce8849c0e4a0448d2ec068ca514d7391ead8cac3cc", func := "phosphor/phosphorlaw09.CharsetNations", spec := "charsetNations", inPlace := ["internal/bytealg.IndexByteString"], apart := false }
def CharsetNationsSaid : Prop := charsetNationsRow.holds Try.pinned (OpenSpec.ofChange charsetNationsSpec)

/-- ITS FALSE NEIGHBOUR: 'it returns false'. Refute it at one input. -/
def charsetNationsWrong : ChangeSpec := { name := "charsetNations", fn := fun _ => fun
  | [d] => { results := [.lit (.bool false)], args := [d] }
  | _ => none }
def CharsetNationsWrongFalsely : Prop := charsetNationsRow.holds Try.pinned (OpenSpec.ofChange charsetNationsWrong)

/-- 'phosphorlaw09.CharsetShows': WHATEVER THE INPUT: true; the input reads as it did. -/
def charsetShowsSpec : ChangeSpec := { name := "charsetShows", fn := fun _ => fun
  | [d] => { results := [.lit (.bool true)], args := [d] }
  | _ => none }
def charsetShowsRow : OpenClaim := { program := "ytcifagnepnjejaa", sum := "f2df3cc9549748595773f6ce8849c0e4a0448d2ec068ca514d7391ead8cac3cc", func := "phosphor/phosphorlaw09.CharsetShows", spec := "charsetShows", inPlace := ["internal/bytealg.IndexByteString"], apart := false }
def CharsetShowsSaid : Prop := charsetShowsRow.holds Try.pinned (OpenSpec.ofChange charsetShowsSpec)

/-- ITS FALSE NEIGHBOUR: 'it returns false'. Refute it at one input. -/
def charsetShowsWrong : ChangeSpec := { name := "charsetShows", fn := fun _ => fun
  | [d] => { results := [.lit (.bool false)], args := [d] }
  | _ => none }
def CharsetShowsWrongFalsely : Prop := charsetShowsRow.holds Try.pinned (OpenSpec.ofChange charsetShowsWrong)

/-- 'phosphorlaw09.CharsetFinds': WHATEVER THE INPUT: true; the input reads as it did. -/
def charsetFindsSpec : ChangeSpec := { name := "charsetFinds", fn := fun _ => fun
  | [d1, d2] => { results := [.lit (.bool true)], args := [d1, d2] }
  | _ => none }
def charsetFindsRow : OpenClaim := { program := "ytcifagnepnjejaa", sum := "f2df3cc9549748595773f6ce8849c0e4a0448d2ec068ca514d7391ead8cac3cc", func := "phosphor/phosphorlaw09.CharsetFinds", spec := "charsetFinds", inPlace := ["internal/bytealg.IndexByteString"], apart := false }
def CharsetFindsSaid : Prop := charsetFindsRow.holds Try.pinned (OpenSpec.ofChange charsetFindsSpec)

/-- ITS FALSE NEIGHBOUR: 'it returns false'. Refute it at one input. -/
def charsetFindsWrong : ChangeSpec := { name := "charsetFinds", fn := fun _ => fun
  | [d1, d2] => { results := [.lit (.bool false)], args := [d1, d2] }
  | _ => none }
def CharsetFindsWrongFalsely : Prop := charsetFindsRow.holds Try.pinned (OpenSpec.ofChange charsetFindsWrong)

/-- 'phosphorlaw09.CharsetIds': WHATEVER THE INPUT: true; the input reads as it did. -/
def charsetIdsSpec : ChangeSpec := { name := "charsetIds", fn := fun _ => fun
  | [d] => { results := [.lit (.bool true)], args := [d] }
  | _ => none }
def charsetIdsRow : OpenClaim := { program := "ytcifagnepnjejaa", sum := "f2df3cc9549748595773f6ce8849c0e4a0448d2ec068ca514d7391ead8cac3cc", func := "phosphor/phosphorlaw09.CharsetIds", spec := "charsetIds", inPlace := ["internal/bytealg.IndexByteString"], apart := false }
def CharsetIdsSaid : Prop := charsetIdsRow.holds Try.pinned (OpenSpec.ofChange charsetIdsSpec)

/-- ITS FALSE NEIGHBOUR: 'it returns false'. Refute it at one input. -/
def charsetIdsWrong : ChangeSpec := { name := "charsetIds", fn := fun _ => fun
  | [d] => { results := [.lit (.bool false)], args := [d] }
  | _ => none }
def CharsetIdsWrongFalsely : Prop := charsetIdsRow.holds Try.pinned (OpenSpec.ofChange charsetIdsWrong)

/- THE SECOND FORM. 'bulk': how many values and letters a reading holds, each counted each time it is reached (what is shared counts as often as it is met; a slice's spare places count too). A statement '..UptoSaid' is the law's where the arguments, and the package variables that the reading takes, are together of bulk at most 1048576: NARROWER than '..Said'. Prove '..Said' where nothing that the law and all that it calls make is longer than what came in: it says more and counts as full. Else prove '..UptoSaid'. A law counts once. -/
mutual
def uptoBulk {H : Type} : DataW H → Nat
  | .lit (.string bytes) => bytes.length + 1
  | .lit _ => 1
  | .nil => 1
  | .ptr d => uptoBulk d + 1
  | .slice elems spare => uptoBulkAll elems + uptoBulkAll spare + 1
  | .agg parts => uptoBulkAll parts + 1
  | .iface _ d => uptoBulk d + 1
  | .map entries => uptoBulkEntries entries + 1
  | .held _ => 1
def uptoBulkAll {H : Type} : List (DataW H) → Nat
  | [] => 0
  | d :: r => uptoBulk d + uptoBulkAll r
def uptoBulkEntries {H : Type} : List (Lit × DataW H) → Nat
  | [] => 0
  | x :: r => uptoBulkEntry x + uptoBulkEntries r
def uptoBulkEntry {H : Type} : Lit × DataW H → Nat
  | (.string bytes, d) => bytes.length + uptoBulk d + 1
  | (_, d) => uptoBulk d + 1
 end
def uptoSmall : (H : Type) → List (DataW H) → Bool := fun _ ds => decide (uptoBulkAll ds ≤ 1048576)
def OpenSpec.upto (s : _root_.Go.ChangeSpec) : _root_.Go.OpenSpec := { _root_.Go.OpenSpec.ofChange s with cond := some uptoSmall }

/-- 'phosphorlaw09.CharsetGlyphs', WHERE WHAT IT READS IS OF BULK AT MOST 1048576: true; the input reads as it did. -/
def charsetGlyphsUptoRow : OpenClaim := { program := "ytcifagnepnjejaa", sum := "f2df3cc9549748595773f6ce8849c0e4a0448d2ec068ca514d7391ead8cac3cc", func := "phosphor/phosphorlaw09.CharsetGlyphs", spec := "charsetGlyphs", inPlace := ["internal/bytealg.IndexByteString"], apart := false, narrowed := true }
def CharsetGlyphsUptoSaid : Prop := charsetGlyphsUptoRow.holds Try.pinned (OpenSpec.upto charsetGlyphsSpec)

/-- 'phosphorlaw09.CharsetNations', WHERE WHAT IT READS IS OF BULK AT MOST 1048576: true; the input reads as it did. -/
def charsetNationsUptoRow : OpenClaim := { program := "ytcifagnepnjejaa", sum := "f2df3cc9549748595773f6ce8849c0e4a0448d2ec068ca514d7391ead8cac3cc", func := "phosphor/phosphorlaw09.CharsetNations", spec := "charsetNations", inPlace := ["internal/bytealg.IndexByteString"], apart := false, narrowed := true }
def CharsetNationsUptoSaid : Prop := charsetNationsUptoRow.holds Try.pinned (OpenSpec.upto charsetNationsSpec)

/-- 'phosphorlaw09.CharsetShows', WHERE WHAT IT READS IS OF BULK AT MOST 1048576: true; the input reads as it did. -/
def charsetShowsUptoRow : OpenClaim := { program := "ytcifagnepnjejaa", sum := "f2df3cc9549748595773f6ce8849c0e4a0448d2ec068ca514d7391ead8cac3cc", func := "phosphor/phosphorlaw09.CharsetShows", spec := "charsetShows", inPlace := ["internal/bytealg.IndexByteString"], apart := false, narrowed := true }
def CharsetShowsUptoSaid : Prop := charsetShowsUptoRow.holds Try.pinned (OpenSpec.upto charsetShowsSpec)

/-- 'phosphorlaw09.CharsetFinds', WHERE WHAT IT READS IS OF BULK AT MOST 1048576: true; the input reads as it did. -/
def charsetFindsUptoRow : OpenClaim := { program := "ytcifagnepnjejaa", sum := "f2df3cc9549748595773f6ce8849c0e4a0448d2ec068ca514d7391ead8cac3cc", func := "phosphor/phosphorlaw09.CharsetFinds", spec := "charsetFinds", inPlace := ["internal/bytealg.IndexByteString"], apart := false, narrowed := true }
def CharsetFindsUptoSaid : Prop := charsetFindsUptoRow.holds Try.pinned (OpenSpec.upto charsetFindsSpec)

/-- 'phosphorlaw09.CharsetIds', WHERE WHAT IT READS IS OF BULK AT MOST 1048576: true; the input reads as it did. -/
def charsetIdsUptoRow : OpenClaim := { program := "ytcifagnepnjejaa", sum := "f2df3cc9549748595773f6ce8849c0e4a0448d2ec068ca514d7391ead8cac3cc", func := "phosphor/phosphorlaw09.CharsetIds", spec := "charsetIds", inPlace := ["internal/bytealg.IndexByteString"], apart := false, narrowed := true }
def CharsetIdsUptoSaid : Prop := charsetIdsUptoRow.holds Try.pinned (OpenSpec.upto charsetIdsSpec)

end Rows
end Go.Proofs.Ytcifagnepnjejaa
