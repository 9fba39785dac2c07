/-
  What a walk is told of a slice of integers that came in.
-/
import Derived.Test.YtjdmobildcgidaaDoorLw2
namespace Go.Proofs.YtjdmobildcgidaaDoor
set_option linter.unusedSimpArgs false
set_option linter.unusedVariables false
open Go.RowKit

/-- A slice of integers that came in: nil, or a row of 'cap' cells, the numbers 'zs', the first 'len' its elements. -/
def IsRow (k : IntKind) (w : World) (a : Option Addr) (len cap : Nat) (zs : List Int) : Prop :=
  (a = none ∧ len = 0 ∧ cap = 0 ∧ zs = []) ∨
  ∃ x, a = some x ∧ len ≤ cap ∧ cap ≤ maxLen ∧ zs.length = cap ∧ (∀ i, i < zs.length → w.cell? (x.add i) = some (.int k (zs.getD i 0))) ∧ ∀ n ∈ zs, (Lit.int k n).wf = true

theorem and127 (c : Int) (h0 : 0 ≤ c) (h1 : c < 256) : bits BinOp.and IntKind.u8 c 127 = c % 128 := by
  have H : ∀ k : Fin 256, bits BinOp.and IntKind.u8 (k.val : Int) 127 = (k.val : Int) % 128 := by decide +kernel
  have := H ⟨c.toNat, by omega⟩
  simpa [Int.toNat_of_nonneg h0] using this
theorem lt_of_cell {w : World} {x : Addr} {v : Value} (h : w.cell? x = some v) : x.block < w.heap.size := by
  rcases Nat.lt_or_ge x.block w.heap.size with h' | h'
  · exact h'
  · simp [World.cell?, Array.getElem?_eq_none h'] at h
/-- A row of at least one cell stands at a plain address. -/
theorem IsRow.plain {k : IntKind} {w : World} {a : Option Addr} {len cap : Nat} {zs : List Int} (h : IsRow k w a len cap zs) (hl : 0 < cap) :
    ∃ b off, a = some ⟨b, off, none⟩ ∧ len ≤ cap ∧ cap ≤ maxLen ∧ zs.length = cap ∧ b < w.heap.size ∧ (∀ i, i < cap → w.cell? ⟨b, off + i, none⟩ = some (.int k (zs.getD i 0))) ∧ ∀ n ∈ zs, (Lit.int k n).wf = true := by
  rcases h with ⟨_, _, h, _⟩ | ⟨x, rfl, h1, h2, h3, h4, h5⟩
  · omega
  · obtain ⟨b, off, s⟩ := x
    have h0 := h4 0 (by omega)
    have hs : s = none := by
      cases s with
      | none => rfl
      | some y => 
        have : (⟨b, off, some y⟩ : Addr).add 0 = ⟨b, off, some y⟩ := by unfold Addr.add; simp
        rw [this] at h0
        unfold World.cell? at h0
        split at h0 <;> simp at h0
    subst hs
    have hc : ∀ i, i < cap → w.cell? ⟨b, off + i, none⟩ = some (.int k (zs.getD i 0)) := by
      intro i hi
      have := h4 i (by omega)
      by_cases h0 : i = 0
      · subst h0; simpa [Addr.add] using this
      · simpa [Addr.add, h0] using this
    exact ⟨b, off, rfl, h1, h2, h3, lt_of_cell (hc 0 hl), hc, h5⟩
/-- A cell that was there is there as it was. -/
theorem Gr.cellAt {w w1 : World} (h : Gr w w1) {x : Addr} {v : Value} (hx : w.cell? x = some v) : w1.cell? x = some v := by
  rw [Below.cell h (lt_of_cell hx)]; exact hx
end Go.Proofs.YtjdmobildcgidaaDoor
