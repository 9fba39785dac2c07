/-
  Laws over any program: what was there ahead of a call, read behind it.
-/
import Derived.Test.YtdfohcnejdhkiaaDoorZLw
namespace Go.Proofs.YtdfohcnejdhkiaaDoor
set_option linter.unusedSimpArgs false
set_option linter.unusedVariables false
open Go.RowKit

theorem Gr.lt1 {W w1 : World} (hb : Gr W w1) (k : Nat) (h : k < W.heap.size) : k < w1.heap.size := Nat.lt_of_lt_of_le h hb.size
/-- A block known whole, behind a store of one cell into it, and into another. -/
theorem blk_set {w : World} {g : Nat} {cs : Array Value} {t : TypeId} (h : w.heap[g]? = some (.cells cs t (0, 0))) (i : Nat) (u : Value) : (w.setCell ⟨g, i, none⟩ u).heap[g]? = some (.cells (cs.setIfInBounds i u) t (0, 0)) := by
  rw [setCell_eq_setRow w g i cs t (0, 0) u h]
  exact setRow_heap w g cs _ t _ h
end Go.Proofs.YtdfohcnejdhkiaaDoor
