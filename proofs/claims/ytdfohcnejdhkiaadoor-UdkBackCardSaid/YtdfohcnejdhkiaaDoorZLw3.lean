/-
  What a walk is told of a slice of integers that came in.
-/
import Derived.Test.YtdfohcnejdhkiaaDoorZLw2
namespace Go.Proofs.YtdfohcnejdhkiaaDoor
set_option linter.unusedSimpArgs false
set_option linter.unusedVariables false
open Go.RowKit

theorem lt_of_cell {w : World} {x : Addr} {v : Value} (h : w.cell? x = some v) : x.block < w.heap.size := by
  rcases Nat.lt_or_ge x.block w.heap.size with h' | h'
  · exact h'
  · simp [World.cell?, Array.getElem?_eq_none h'] at h
/-- A cell that was there is there as it was. -/
theorem Gr.cellAt {w w1 : World} (h : Gr w w1) {x : Addr} {v : Value} (hx : w.cell? x = some v) : w1.cell? x = some v := by
  rw [Below.cell h (lt_of_cell hx)]; exact hx
end Go.Proofs.YtdfohcnejdhkiaaDoor
