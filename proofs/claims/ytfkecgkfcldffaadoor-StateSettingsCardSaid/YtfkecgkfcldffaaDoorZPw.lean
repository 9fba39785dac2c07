/-
  A part of a block that is known whole: stored, and loaded.
-/
import Derived.Deep.MidRow
import Derived.Test.YtfkecgkfcldffaaDoorZUp
import Derived.Test.YtfkecgkfcldffaaDoorZSrc
namespace Go.Proofs.YtfkecgkfcldffaaDoor
set_option linter.unusedSimpArgs false
set_option linter.unusedVariables false
open Go.RowKit
set_option linter.unusedVariables false

/-! ### A part of a block that is known whole is stored -/
def setL (C : Array Value) : Nat → List Value → Array Value
  | _, [] => C
  | o, v :: r => setL (C.setIfInBounds o v) (o + 1) r
theorem setCells_blk {g : Nat} {t : TypeId} : ∀ (vs : List Value) (o : Nat) (w : World) (C : Array Value), w.heap[g]? = some (.cells C t (0, 0)) → (w.setCells g o vs).heap[g]? = some (.cells (setL C o vs) t (0, 0)) ∧ Upd [g] w (w.setCells g o vs) ∧ (w.setCells g o vs).heap.size = w.heap.size := by
  intro vs
  induction vs with
  | nil => intro o w C h; exact ⟨h, .refl _ _, rfl⟩
  | cons v r ih =>
    intro o w C h
    obtain ⟨h1, h2, h3⟩ := ih (o + 1) (w.setCell ⟨g, o, none⟩ v) (C.setIfInBounds o v) (blk_set h o v)
    exact ⟨h1, (Upd.of_setCell w g o v).trans h2, by rw [World.setCells, h3]; simp⟩
end Go.Proofs.YtfkecgkfcldffaaDoor
