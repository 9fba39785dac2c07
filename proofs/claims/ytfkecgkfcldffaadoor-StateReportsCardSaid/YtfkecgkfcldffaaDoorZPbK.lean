/-
  The parser is fed, walked.
-/
import Derived.Test.YtfkecgkfcldffaaDoorZPaT
import Derived.Test.YtfkecgkfcldffaaDoorZPbA
namespace Go.Proofs.YtfkecgkfcldffaaDoor
set_option linter.unusedSimpArgs false
set_option linter.unusedVariables false
set_option linter.unusedSectionVars false
open Go.RowKit
variable [Bs]

/-- A slice that reads as a list of cells. -/
def Rd (w : World) (a : Option Addr) (n : Nat) (xs : List Value) : Prop :=
  xs.length = n ∧ (n = 0 ∨ ∃ b off, a = some ⟨b, off, none⟩ ∧ ∀ i u, xs[i]? = some u → w.cell? ⟨b, off + i, none⟩ = some u)
/-- It lies in no block of a list. -/
def Out (lv : List Nat) (a : Option Addr) : Prop := ∀ x, a = some x → x.block ∉ lv
theorem Rd.at_ {w : World} {a : Option Addr} {n : Nat} {xs : List Value} (h : Rd w a n xs) {k : Nat} (hk : k < n) : ∃ b off u, a = some ⟨b, off, none⟩ ∧ xs[k]? = some u ∧ w.cell? ⟨b, off + k, none⟩ = some u ∧ b < w.heap.size := by
  rcases h.2 with h0 | ⟨b, off, rfl, hc⟩
  · omega
  · have hl : k < xs.length := by rw [h.1]; exact hk
    have := hc k _ (List.getElem?_eq_getElem hl)
    exact ⟨b, off, _, rfl, List.getElem?_eq_getElem hl, this, lt_of_cell this⟩
theorem Rd.upd {w w' : World} {lv : List Nat} {a : Option Addr} {n : Nat} {xs : List Value} (h : Rd w a n xs) (hu : Upd lv w w') (ho : Out lv a) : Rd w' a n xs := by
  refine ⟨h.1, ?_⟩
  rcases h.2 with h0 | ⟨b, off, rfl, hc⟩
  · exact .inl h0
  · refine .inr ⟨b, off, rfl, fun i u hi => ?_⟩
    have := hc i u hi
    rw [World.cell?_of_block (w' := w') (w := w) (hu.block b (lt_of_cell this) (ho _ rfl))]
    exact this

/-- Where nothing is said of it the least block is the first. -/
instance zeroB : Bs := ⟨0⟩
end Go.Proofs.YtfkecgkfcldffaaDoor
