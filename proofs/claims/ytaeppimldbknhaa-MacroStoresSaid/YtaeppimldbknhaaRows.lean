/-
  No cell of these rows narrows 'for every input' (looked for: loops, veiled, ifaces, maps, wideKeys, modest, calm, conditions, laid).
  DERIVED. THE GIVEN ROWS OF THIS SEAT. 4 by the template 'for every input the law returns true; each argument reads behind the call as it read before'; 0 by the template 'total and deterministic' (their statements: YtaeppimldbknhaaTotals.lean).
  GIVEN WITH THE SEED: the statements are not yours to turn. If you find one false, say at which input.
  Laid BY PROGRAM, IN A SANDBOX (cutbox-rows.mjs): the forced cells as the released guide's own fill.sh prints them over the translation fd21180b3662efc2… (all of the seat's roots in one cut). By AI agents, Wed Nov 11 2026. No macro, syntax, notation, axiom, sorry.
-/
import Derived.Test.YtaeppimldbknhaaChecked
import GoSem.Claim
import GoSem.ClaimJoined
import GoSem.ClaimMapViews
import Derived.JoinedTies
import Derived.KernelRfl
namespace Go.Proofs.Ytaeppimldbknhaa
/- THE CELL 'sum', in the pinned program and in every row, IS THE sha256 OF THE DUMP (.gsa) THAT YtaeppimldbknhaaProg.lean LOADS. Nothing in Lean hashes anything: it is a label: what it is worth is what the hold of that sum in a sandbox is worth. -/
noncomputable def Try.pinned : Pinned := { name := "ytaeppimldbknhaa", sum := "fd21180b3662efc2c418cfc05752ea2a8b923240cce924dc07da664360c045ee", checked := Try.checked }
namespace Rows
def none {H : Type} : Left H := { results := [], args := [] }

/-- 'phosphorlaw20.MacroDecodes': WHATEVER THE INPUT: true; the input reads as it did. -/
def macroDecodesSpec : ChangeSpec := { name := "macroDecodes", fn := fun _ => fun
  | [d1, d2] => { results := [.lit (.bool true)], args := [d1, d2] }
  | _ => none }
def macroDecodesRow : OpenClaim := { program := "ytaeppimldbknhaa", sum := "fd21180b3662efc2c418cfc05752ea2a8b923240cce924dc07da664360c045ee", func := "phosphor/phosphorlaw20.MacroDecodes", spec := "macroDecodes", inPlace := ["internal/bytealg.IndexByteString", "internal/bytealg.IndexString", "internal/abi.NoEscape", "internal/bytealg.MakeNoZero"], named := ["internal/bytealg.MaxLen"], apart := false }
def MacroDecodesSaid : Prop := macroDecodesRow.holds Try.pinned (OpenSpec.ofChange macroDecodesSpec)

/-- ITS FALSE NEIGHBOUR: 'it returns false'. Refute it at one input. -/
def macroDecodesWrong : ChangeSpec := { name := "macroDecodes", fn := fun _ => fun
  | [d1, d2] => { results := [.lit (.bool false)], args := [d1, d2] }
  | _ => none }
def MacroDecodesWrongFalsely : Prop := macroDecodesRow.holds Try.pinned (OpenSpec.ofChange macroDecodesWrong)

/-- 'phosphorlaw20.MacroHex': WHATEVER THE INPUT: true; the input reads as it did. -/
def macroHexSpec : ChangeSpec := { name := "macroHex", fn := fun _ => fun
  | [d1, d2] => { results := [.lit (.bool true)], args := [d1, d2] }
  | _ => none }
def macroHexRow : OpenClaim := { program := "ytaeppimldbknhaa", sum := "fd21180b3662efc2c418cfc05752ea2a8b923240cce924dc07da664360c045ee", func := "phosphor/phosphorlaw20.MacroHex", spec := "macroHex", inPlace := ["internal/bytealg.IndexByteString", "internal/bytealg.IndexString", "internal/abi.NoEscape", "internal/bytealg.MakeNoZero"], named := ["internal/bytealg.MaxLen"], apart := false }
def MacroHexSaid : Prop := macroHexRow.holds Try.pinned (OpenSpec.ofChange macroHexSpec)

/-- ITS FALSE NEIGHBOUR: 'it returns false'. Refute it at one input. -/
def macroHexWrong : ChangeSpec := { name := "macroHex", fn := fun _ => fun
  | [d1, d2] => { results := [.lit (.bool false)], args := [d1, d2] }
  | _ => none }
def MacroHexWrongFalsely : Prop := macroHexRow.holds Try.pinned (OpenSpec.ofChange macroHexWrong)

/-- 'phosphorlaw20.MacroFull': WHATEVER THE INPUT: true; the input reads as it did. -/
def macroFullSpec : ChangeSpec := { name := "macroFull", fn := fun _ => fun
  | [d1, d2] => { results := [.lit (.bool true)], args := [d1, d2] }
  | _ => none }
def macroFullRow : OpenClaim := { program := "ytaeppimldbknhaa", sum := "fd21180b3662efc2c418cfc05752ea2a8b923240cce924dc07da664360c045ee", func := "phosphor/phosphorlaw20.MacroFull", spec := "macroFull", inPlace := ["internal/bytealg.IndexByteString", "internal/bytealg.IndexString", "internal/abi.NoEscape", "internal/bytealg.MakeNoZero", "maps.clone"], named := ["internal/bytealg.MaxLen"], apart := false }
def MacroFullSaid : Prop := macroFullRow.holds Try.pinned (OpenSpec.ofChange macroFullSpec)

/-- ITS FALSE NEIGHBOUR: 'it returns false'. Refute it at one input. -/
def macroFullWrong : ChangeSpec := { name := "macroFull", fn := fun _ => fun
  | [d1, d2] => { results := [.lit (.bool false)], args := [d1, d2] }
  | _ => none }
def MacroFullWrongFalsely : Prop := macroFullRow.holds Try.pinned (OpenSpec.ofChange macroFullWrong)

/-- 'phosphorlaw20.MacroStores': WHATEVER THE INPUT: true; the input reads as it did. -/
def macroStoresSpec : ChangeSpec := { name := "macroStores", fn := fun _ => fun
  | [d1, d2] => { results := [.lit (.bool true)], args := [d1, d2] }
  | _ => none }
def macroStoresRow : OpenClaim := { program := "ytaeppimldbknhaa", sum := "fd21180b3662efc2c418cfc05752ea2a8b923240cce924dc07da664360c045ee", func := "phosphor/phosphorlaw20.MacroStores", spec := "macroStores", inPlace := ["internal/bytealg.IndexByteString", "internal/bytealg.IndexString", "internal/abi.NoEscape", "internal/bytealg.MakeNoZero", "maps.clone"], unfollowed := true, recurses := true, named := ["internal/bytealg.MaxLen"], apart := false }
def MacroStoresSaid : Prop := macroStoresRow.holds Try.pinned (OpenSpec.ofChange macroStoresSpec)

/-- ITS FALSE NEIGHBOUR: 'it returns false'. Refute it at one input. -/
def macroStoresWrong : ChangeSpec := { name := "macroStores", fn := fun _ => fun
  | [d1, d2] => { results := [.lit (.bool false)], args := [d1, d2] }
  | _ => none }
def MacroStoresWrongFalsely : Prop := macroStoresRow.holds Try.pinned (OpenSpec.ofChange macroStoresWrong)

/- THE SECOND FORM. 'bulk': how many values and letters a reading holds, each counted each time it is reached (what is shared counts as often as it is met; a slice's spare places count too). A statement '..UptoSaid' is the law's where the arguments, and the package variables that the reading takes, are together of bulk at most 1048576: NARROWER than '..Said'. Prove '..Said' where nothing that the law and all that it calls make is longer than what came in: it says more and counts as full. Else prove '..UptoSaid'. A law counts once. -/
mutual
def uptoBulk {H : Type} : DataW H → Nat
  | .lit (.string bytes) => bytes.length + 1
  | .lit _ => 1
  | .nil => 1
  | .ptr d => uptoBulk d + 1
  | .slice elems spare => uptoBulkAll elems + uptoBulkAll spare + 1
  | .agg parts => uptoBulkAll parts + 1
  | .iface _ d => uptoBulk d + 1
  | .map entries => uptoBulkEntries entries + 1
  | .held _ => 1
def uptoBulkAll {H : Type} : List (DataW H) → Nat
  | [] => 0
  | d :: r => uptoBulk d + uptoBulkAll r
def uptoBulkEntries {H : Type} : List (Lit × DataW H) → Nat
  | [] => 0
  | x :: r => uptoBulkEntry x + uptoBulkEntries r
def uptoBulkEntry {H : Type} : Lit × DataW H → Nat
  | (.string bytes, d) => bytes.length + uptoBulk d + 1
  | (_, d) => uptoBulk d + 1
 end
def uptoSmall : (H : Type) → List (DataW H) → Bool := fun _ ds => decide (uptoBulkAll ds ≤ 1048576)
def OpenSpec.upto (s : _root_.Go.ChangeSpec) : _root_.Go.OpenSpec := { _root_.Go.OpenSpec.ofChange s with cond := some uptoSmall }

/-- 'phosphorlaw20.MacroDecodes', WHERE WHAT IT READS IS OF BULK AT MOST 1048576: true; the input reads as it did. -/
def macroDecodesUptoRow : OpenClaim := { program := "ytaeppimldbknhaa", sum := "fd21180b3662efc2c418cfc05752ea2a8b923240cce924dc07da664360c045ee", func := "phosphor/phosphorlaw20.MacroDecodes", spec := "macroDecodes", inPlace := ["internal/bytealg.IndexByteString", "internal/bytealg.IndexString", "internal/abi.NoEscape", "internal/bytealg.MakeNoZero"], named := ["internal/bytealg.MaxLen"], apart := false, narrowed := true }
def MacroDecodesUptoSaid : Prop := macroDecodesUptoRow.holds Try.pinned (OpenSpec.upto macroDecodesSpec)

/-- 'phosphorlaw20.MacroHex', WHERE WHAT IT READS IS OF BULK AT MOST 1048576: true; the input reads as it did. -/
def macroHexUptoRow : OpenClaim := { program := "ytaeppimldbknhaa", sum := "fd21180b3662efc2c418cfc05752ea2a8b923240cce924dc07da664360c045ee", func := "phosphor/phosphorlaw20.MacroHex", spec := "macroHex", inPlace := ["internal/bytealg.IndexByteString", "internal/bytealg.IndexString", "internal/abi.NoEscape", "internal/bytealg.MakeNoZero"], named := ["internal/bytealg.MaxLen"], apart := false, narrowed := true }
def MacroHexUptoSaid : Prop := macroHexUptoRow.holds Try.pinned (OpenSpec.upto macroHexSpec)

/-- 'phosphorlaw20.MacroFull', WHERE WHAT IT READS IS OF BULK AT MOST 1048576: true; the input reads as it did. -/
def macroFullUptoRow : OpenClaim := { program := "ytaeppimldbknhaa", sum := "fd21180b3662efc2c418cfc05752ea2a8b923240cce924dc07da664360c045ee", func := "phosphor/phosphorlaw20.MacroFull", spec := "macroFull", inPlace := ["internal/bytealg.IndexByteString", "internal/bytealg.IndexString", "internal/abi.NoEscape", "internal/bytealg.MakeNoZero", "maps.clone"], named := ["internal/bytealg.MaxLen"], apart := false, narrowed := true }
def MacroFullUptoSaid : Prop := macroFullUptoRow.holds Try.pinned (OpenSpec.upto macroFullSpec)

/-- 'phosphorlaw20.MacroStores', WHERE WHAT IT READS IS OF BULK AT MOST 1048576: true; the input reads as it did. -/
def macroStoresUptoRow : OpenClaim := { program := "ytaeppimldbknhaa", sum := "fd21180b3662efc2c418cfc05752ea2a8b923240cce924dc07da664360c045ee", func := "phosphor/phosphorlaw20.MacroStores", spec := "macroStores", inPlace := ["internal/bytealg.IndexByteString", "internal/bytealg.IndexString", "internal/abi.NoEscape", "internal/bytealg.MakeNoZero", "maps.clone"], unfollowed := true, recurses := true, named := ["internal/bytealg.MaxLen"], apart := false, narrowed := true }
def MacroStoresUptoSaid : Prop := macroStoresUptoRow.holds Try.pinned (OpenSpec.upto macroStoresSpec)

end Rows
end Go.Proofs.Ytaeppimldbknhaa
