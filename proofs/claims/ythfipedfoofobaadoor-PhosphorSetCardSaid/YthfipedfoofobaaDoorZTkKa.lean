/-
  A token's copy and bytes as memory that may be written: what the law TokenKeeps needs.
-/
import Derived.Deep.DeepCutAuto
import Derived.Deep.RegionHeld3
import Derived.MakeChecks
import Derived.OneCell
import Derived.Test.YthfipedfoofobaaDoorRows
import Derived.Test.YthfipedfoofobaaDoorZOrd7
import Derived.Test.YthfipedfoofobaaDoorZPdI
import Derived.Test.YthfipedfoofobaaDoorZTkP
import Derived.Test.YthfipedfoofobaaDoorZTkR
import Derived.Test.YthfipedfoofobaaDoorZTkCo
import Derived.Test.YthfipedfoofobaaDoorZTkS
namespace Go.Proofs.YthfipedfoofobaaDoor
set_option linter.unusedSimpArgs false
set_option linter.unusedVariables false
open Go.RowKit
set_option linter.unusedVariables false

/-- An element of a row of the call's own is written. -/
theorem own_put {w : World} {B e n c g j : Nat} {xs : List Value} {u : Value} (h : w.ownsRow B e 1 (.slice (some ⟨g, 0, none⟩) n c) n xs) (hj : j < n) : (w.setCell ⟨g, j, none⟩ u).ownsRow B e 1 (.slice (some ⟨g, 0, none⟩) n c) n (xs.set j u) := by
  obtain ⟨h1, h2⟩ := h
  refine ⟨by simpa using h1, ?_⟩
  rcases h2 with ⟨h2, _⟩ | ⟨g', cap, cur, hv, hg, hh, hn, hm, hs, ht⟩
  · cases h2
  · injection hv with e1 _ e3
    injection e1 with e1
    injection e1 with e1
    subst e1
    subst e3
    refine .inr ⟨g, c, cur.setIfInBounds j u, rfl, hg, blk_set hh j u, hn, hm, by simpa using hs, ?_⟩
    rw [← ht, Array.toList_setIfInBounds, List.take_set]
/-- What an element of such a row holds; that it may be written. -/
theorem own_cellAt {w : World} {B e n c g j : Nat} {xs : List Value} (h : w.ownsRow B e 1 (.slice (some ⟨g, 0, none⟩) n c) n xs) {v : Value} (hv : xs[j]? = some v) : w.cell? ⟨g, j, none⟩ = some v ∧ w.frozen? ⟨g, j, none⟩ = false := by
  have h1 := h.cells (g := g) rfl j v hv
  have ea : (⟨g, 0, none⟩ : Addr).add j = ⟨g, j, none⟩ := by rcases j with _ | j <;> simp [Addr.add]
  refine ⟨by rw [← ea]; simpa using h1, ?_⟩
  rcases h.2 with ⟨h2, _⟩ | ⟨g', cap, cur, hv, hg, hh, r⟩
  · cases h2
  · injection hv with e1 _ e3
    injection e1 with e1
    injection e1 with e1
    subst e1
    simp [World.frozen?, hh]
theorem icells_set {l : List Int} {j : Nat} {x : Int} : (icells l).set j (.int .i64 x) = icells (l.set j x) := by simp [icells, List.map_set]
end Go.Proofs.YthfipedfoofobaaDoor
