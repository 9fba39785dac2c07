/-
  A builder in memory: what is told of it.
-/
import Derived.Test.YtaeppimldbknhaaZMcE
namespace Go.Proofs.Ytaeppimldbknhaa
set_option linter.unusedSimpArgs false
set_option linter.unusedVariables false
open Go.RowKit

theorem Gr.size {w w' : World} (h : Gr w w') : w.heap.size ≤ w'.heap.size := Below.size h
abbrev IsB (w0 w : World) (o : List UInt8) : Prop := Lib.IsBuilder 56 5 w0.heap.size w0.heap.size (Lib.byteCells o) w
end Go.Proofs.Ytaeppimldbknhaa
