/-
  No cell of these rows narrows 'for every input' (looked for: loops, veiled, ifaces, maps, wideKeys, modest, calm, conditions, laid).
  DERIVED. THE GIVEN ROWS OF THIS SEAT. 4 by the template 'for every input the law returns true; each argument reads behind the call as it read before'; 0 by the template 'total and deterministic' (their statements: YtomflpkokcldeaaTotals.lean).
  GIVEN WITH THE SEED: the statements are not yours to turn. If you find one false, say at which input.
  Laid BY PROGRAM, IN A SANDBOX (cutbox-rows.mjs): the forced cells as the released guide's own fill.sh prints them over the translation d27ed22dacec6292… (all of the seat's roots in one cut). By AI agents, Wed Nov 11 2026. No macro, syntax, notation, axiom, sorry.
-/
import Derived.Test.YtomflpkokcldeaaChecked
import GoSem.Claim
import GoSem.ClaimJoined
import GoSem.ClaimMapViews
import Derived.JoinedTies
import Derived.KernelRfl
namespace Go.Proofs.Ytomflpkokcldeaa
/- THE CELL 'sum', in the pinned program and in every row, IS THE sha256 OF THE DUMP (.gsa) THAT YtomflpkokcldeaaProg.lean LOADS. Nothing in Lean hashes anything: it is a label: what it is worth is what the hold of that sum in a sandbox is worth. -/
noncomputable def Try.pinned : Pinned := { name := "ytomflpkokcldeaa", sum := "d27ed22dacec62929eb58892ac98c2b4ccce0fd66f13e5c4cbce10cfa847001b", checked := Try.checked }
namespace Rows
def none {H : Type} : Left H := { results := [], args := [] }

/-- 'phosphorlaw10.IsoOnce': WHATEVER THE INPUT: true; the input reads as it did. -/
def isoOnceSpec : ChangeSpec := { name := "isoOnce", fn := fun _ => fun
  | [d1, d2, d3] => { results := [.lit (.bool true)], args := [d1, d2, d3] }
  | _ => none }
def isoOnceRow : OpenClaim := { program := "ytomflpkokcldeaa", sum := "d27ed22dacec62929eb58892ac98c2b4ccce0fd66f13e5c4cbce10cfa847001b", func := "phosphor/phosphorlaw10.IsoOnce", spec := "isoOnce", inPlace := ["internal/bytealg.IndexByteString", "internal/abi.NoEscape"], unfollowed := true, recurses := true, apart := false }
def IsoOnceSaid : Prop := isoOnceRow.holds Try.pinned (OpenSpec.ofChange isoOnceSpec)

/-- ITS FALSE NEIGHBOUR: 'it returns false'. Refute it at one input. -/
def isoOnceWrong : ChangeSpec := { name := "isoOnce", fn := fun _ => fun
  | [d1, d2, d3] => { results := [.lit (.bool false)], args := [d1, d2, d3] }
  | _ => none }
def IsoOnceWrongFalsely : Prop := isoOnceRow.holds Try.pinned (OpenSpec.ofChange isoOnceWrong)

/-- 'phosphorlaw10.IsoApart': WHATEVER THE INPUT: true; the input reads as it did. -/
def isoApartSpec : ChangeSpec := { name := "isoApart", fn := fun _ => fun
  | [d1, d2, d3] => { results := [.lit (.bool true)], args := [d1, d2, d3] }
  | _ => none }
def isoApartRow : OpenClaim := { program := "ytomflpkokcldeaa", sum := "d27ed22dacec62929eb58892ac98c2b4ccce0fd66f13e5c4cbce10cfa847001b", func := "phosphor/phosphorlaw10.IsoApart", spec := "isoApart", inPlace := ["internal/bytealg.IndexByteString", "internal/abi.NoEscape"], unfollowed := true, recurses := true, apart := false }
def IsoApartSaid : Prop := isoApartRow.holds Try.pinned (OpenSpec.ofChange isoApartSpec)

/-- ITS FALSE NEIGHBOUR: 'it returns false'. Refute it at one input. -/
def isoApartWrong : ChangeSpec := { name := "isoApart", fn := fun _ => fun
  | [d1, d2, d3] => { results := [.lit (.bool false)], args := [d1, d2, d3] }
  | _ => none }
def IsoApartWrongFalsely : Prop := isoApartRow.holds Try.pinned (OpenSpec.ofChange isoApartWrong)

/-- 'phosphorlaw10.IsoPlays': WHATEVER THE INPUT: true; the input reads as it did. -/
def isoPlaysSpec : ChangeSpec := { name := "isoPlays", fn := fun _ => fun
  | [d1, d2] => { results := [.lit (.bool true)], args := [d1, d2] }
  | _ => none }
def isoPlaysRow : OpenClaim := { program := "ytomflpkokcldeaa", sum := "d27ed22dacec62929eb58892ac98c2b4ccce0fd66f13e5c4cbce10cfa847001b", func := "phosphor/phosphorlaw10.IsoPlays", spec := "isoPlays", inPlace := ["internal/bytealg.IndexByteString", "internal/abi.NoEscape"], unfollowed := true, recurses := true, apart := false }
def IsoPlaysSaid : Prop := isoPlaysRow.holds Try.pinned (OpenSpec.ofChange isoPlaysSpec)

/-- ITS FALSE NEIGHBOUR: 'it returns false'. Refute it at one input. -/
def isoPlaysWrong : ChangeSpec := { name := "isoPlays", fn := fun _ => fun
  | [d1, d2] => { results := [.lit (.bool false)], args := [d1, d2] }
  | _ => none }
def IsoPlaysWrongFalsely : Prop := isoPlaysRow.holds Try.pinned (OpenSpec.ofChange isoPlaysWrong)

/-- 'phosphorlaw10.IsoReports': WHATEVER THE INPUT: true; the input reads as it did. -/
def isoReportsSpec : ChangeSpec := { name := "isoReports", fn := fun _ => fun
  | [d1, d2, d3] => { results := [.lit (.bool true)], args := [d1, d2, d3] }
  | _ => none }
def isoReportsRow : OpenClaim := { program := "ytomflpkokcldeaa", sum := "d27ed22dacec62929eb58892ac98c2b4ccce0fd66f13e5c4cbce10cfa847001b", func := "phosphor/phosphorlaw10.IsoReports", spec := "isoReports", inPlace := ["internal/bytealg.IndexByteString", "internal/abi.NoEscape"], unfollowed := true, recurses := true, apart := false }
def IsoReportsSaid : Prop := isoReportsRow.holds Try.pinned (OpenSpec.ofChange isoReportsSpec)

/-- ITS FALSE NEIGHBOUR: 'it returns false'. Refute it at one input. -/
def isoReportsWrong : ChangeSpec := { name := "isoReports", fn := fun _ => fun
  | [d1, d2, d3] => { results := [.lit (.bool false)], args := [d1, d2, d3] }
  | _ => none }
def IsoReportsWrongFalsely : Prop := isoReportsRow.holds Try.pinned (OpenSpec.ofChange isoReportsWrong)

/- THE SECOND FORM. 'bulk': how many values and letters a reading holds, each counted each time it is reached (what is shared counts as often as it is met; a slice's spare places count too). A statement '..UptoSaid' is the law's where the arguments, and the package variables that the reading takes, are together of bulk at most 1048576: NARROWER than '..Said'. Prove '..Said' where nothing that the law and all that it calls make is longer than what came in: it says more and counts as full. Else prove '..UptoSaid'. A law counts once. -/
mutual
def uptoBulk {H : Type} : DataW H → Nat
  | .lit (.string bytes) => bytes.length + 1
  | .lit _ => 1
  | .nil => 1
  | .ptr d => uptoBulk d + 1
  | .slice elems spare => uptoBulkAll elems + uptoBulkAll spare + 1
  | .agg parts => uptoBulkAll parts + 1
  | .iface _ d => uptoBulk d + 1
  | .map entries => uptoBulkEntries entries + 1
  | .held _ => 1
def uptoBulkAll {H : Type} : List (DataW H) → Nat
  | [] => 0
  | d :: r => uptoBulk d + uptoBulkAll r
def uptoBulkEntries {H : Type} : List (Lit × DataW H) → Nat
  | [] => 0
  | x :: r => uptoBulkEntry x + uptoBulkEntries r
def uptoBulkEntry {H : Type} : Lit × DataW H → Nat
  | (.string bytes, d) => bytes.length + uptoBulk d + 1
  | (_, d) => uptoBulk d + 1
 end
def uptoSmall : (H : Type) → List (DataW H) → Bool := fun _ ds => decide (uptoBulkAll ds ≤ 1048576)
def OpenSpec.upto (s : _root_.Go.ChangeSpec) : _root_.Go.OpenSpec := { _root_.Go.OpenSpec.ofChange s with cond := some uptoSmall }

/-- 'phosphorlaw10.IsoOnce', WHERE WHAT IT READS IS OF BULK AT MOST 1048576: true; the input reads as it did. -/
def isoOnceUptoRow : OpenClaim := { program := "ytomflpkokcldeaa", sum := "d27ed22dacec62929eb58892ac98c2b4ccce0fd66f13e5c4cbce10cfa847001b", func := "phosphor/phosphorlaw10.IsoOnce", spec := "isoOnce", inPlace := ["internal/bytealg.IndexByteString", "internal/abi.NoEscape"], unfollowed := true, recurses := true, apart := false, narrowed := true }
def IsoOnceUptoSaid : Prop := isoOnceUptoRow.holds Try.pinned (OpenSpec.upto isoOnceSpec)

/-- 'phosphorlaw10.IsoApart', WHERE WHAT IT READS IS OF BULK AT MOST 1048576: true; the input reads as it did. -/
def isoApartUptoRow : OpenClaim := { program := "ytomflpkokcldeaa", sum := "d27ed22dacec62929eb58892ac98c2b4ccce0fd66f13e5c4cbce10cfa847001b", func := "phosphor/phosphorlaw10.IsoApart", spec := "isoApart", inPlace := ["internal/bytealg.IndexByteString", "internal/abi.NoEscape"], unfollowed := true, recurses := true, apart := false, narrowed := true }
def IsoApartUptoSaid : Prop := isoApartUptoRow.holds Try.pinned (OpenSpec.upto isoApartSpec)

/-- 'phosphorlaw10.IsoPlays', WHERE WHAT IT READS IS OF BULK AT MOST 1048576: true; the input reads as it did. -/
def isoPlaysUptoRow : OpenClaim := { program := "ytomflpkokcldeaa", sum := "d27ed22dacec62929eb58892ac98c2b4ccce0fd66f13e5c4cbce10cfa847001b", func := "phosphor/phosphorlaw10.IsoPlays", spec := "isoPlays", inPlace := ["internal/bytealg.IndexByteString", "internal/abi.NoEscape"], unfollowed := true, recurses := true, apart := false, narrowed := true }
def IsoPlaysUptoSaid : Prop := isoPlaysUptoRow.holds Try.pinned (OpenSpec.upto isoPlaysSpec)

/-- 'phosphorlaw10.IsoReports', WHERE WHAT IT READS IS OF BULK AT MOST 1048576: true; the input reads as it did. -/
def isoReportsUptoRow : OpenClaim := { program := "ytomflpkokcldeaa", sum := "d27ed22dacec62929eb58892ac98c2b4ccce0fd66f13e5c4cbce10cfa847001b", func := "phosphor/phosphorlaw10.IsoReports", spec := "isoReports", inPlace := ["internal/bytealg.IndexByteString", "internal/abi.NoEscape"], unfollowed := true, recurses := true, apart := false, narrowed := true }
def IsoReportsUptoSaid : Prop := isoReportsUptoRow.holds Try.pinned (OpenSpec.upto isoReportsSpec)

end Rows
end Go.Proofs.Ytomflpkokcldeaa
