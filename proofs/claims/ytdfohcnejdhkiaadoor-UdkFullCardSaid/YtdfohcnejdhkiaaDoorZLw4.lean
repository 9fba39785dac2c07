/-
  Laws over any program: one element more in a row of the call's own.
-/
import Derived.Deep.AppendLies
import Derived.Deep.RegionLaw
import Derived.Test.YtdfohcnejdhkiaaDoorZLw3
namespace Go.Proofs.YtdfohcnejdhkiaaDoor
set_option linter.unusedSimpArgs false
set_option linter.unusedVariables false
open Go.RowKit

section
variable {P : Program} {ops : Array Oper} {rest : List Oper} {u : Oper} {a : Act} {w : World} {Q : Exit → Act → World → Prop}

end

theorem ownsRow_blk {w : World} {B e size n : Nat} {v : Value} {xs : List Value} (h : w.ownsRow B e size v n xs) {k : Nat} (hk : v.ownBlock = some k) : k < w.heap.size := by
  rcases h.2 with ⟨hv, _⟩ | ⟨g, cap, cur, hv, _, hh, _⟩
  · rw [hv] at hk; cases hk
  · rw [hv] at hk
    simp only [Value.ownBlock, Option.some.injEq] at hk
    subst hk
    exact (Array.getElem?_eq_some_iff.1 hh).1
theorem ownsRow_base {w : World} {B e size n : Nat} {v : Value} {xs : List Value} (h : w.ownsRow B e size v n xs) {k : Nat} (hk : v.ownBlock = some k) : B ≤ k := by
  rcases h.2 with ⟨hv, _⟩ | ⟨g, cap, cur, hv, hB, hh, _⟩
  · rw [hv] at hk; cases hk
  · rw [hv] at hk
    simp only [Value.ownBlock, Option.some.injEq] at hk
    subst hk
    exact hB
/-- A row whose block has not changed. -/
theorem ownsRow_same {w w' : World} {B e size n : Nat} {v : Value} {xs : List Value} (h : w.ownsRow B e size v n xs) (hs : ∀ k, v.ownBlock = some k → w'.heap[k]? = w.heap[k]?) : w'.ownsRow B e size v n xs := by
  refine ⟨h.1, ?_⟩
  rcases h.2 with h2 | ⟨g, cap, cur, hv, hg, hh, r⟩
  · exact .inl h2
  · exact .inr ⟨g, cap, cur, hv, hg, by rw [hs g (by rw [hv]; rfl)]; exact hh, r⟩
theorem ownsRow_gr {w w' : World} {B e size n : Nat} {v : Value} {xs : List Value} (h : w.ownsRow B e size v n xs) (hg : Gr w w') : w'.ownsRow B e size v n xs :=
  ownsRow_same h fun k hk => hg.block k (ownsRow_blk h hk)
theorem row_form {w : World} {B e size n : Nat} {v : Value} {xs : List Value} (h : w.ownsRow B e size v n xs) : ∃ a cap, v = .slice a n cap := by
  rcases h.2 with ⟨rfl, rfl⟩ | ⟨g, cap, cur, rfl, _⟩
  · exact ⟨_, _, rfl⟩
  · exact ⟨_, _, rfl⟩
end Go.Proofs.YtdfohcnejdhkiaaDoor
