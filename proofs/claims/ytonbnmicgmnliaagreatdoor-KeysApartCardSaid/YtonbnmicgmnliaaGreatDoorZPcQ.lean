/-
  The document's sequence with numbers: helpers.
-/
import Derived.Maps.AppendAt
import Derived.Test.YtonbnmicgmnliaaGreatDoorZPcI
namespace Go.Proofs.YtonbnmicgmnliaaGreatDoor
set_option linter.unusedSimpArgs false
set_option linter.unusedVariables false
open Go.RowKit

theorem heap_new2 (w : World) (o o' : Obj) : ((w.alloc o).alloc o').heap[w.heap.size + 1]? = some o' := by
  have := heap_alloc_new (w.alloc o) o'
  simpa using this
end Go.Proofs.YtonbnmicgmnliaaGreatDoor
