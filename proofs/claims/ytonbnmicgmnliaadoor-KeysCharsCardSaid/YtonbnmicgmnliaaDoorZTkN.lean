/-
  The document's Check of any token.
  The document's Check of any token: the whole.
  Any two tokens that came in: the document's Check, and its Same.
-/
import Derived.Test.YtonbnmicgmnliaaDoorZTkK
namespace Go.Proofs.YtonbnmicgmnliaaDoor
set_option linter.unusedSimpArgs false
set_option linter.unusedVariables false
open Go.RowKit
set_option linter.unusedVariables false

theorem qstr {s : ByteArray} (hs : s ≠ ⟨#[]⟩) : s.toList.isEmpty = false ∧ ¬ s.toList = [] ∧ (s.toList == (⟨#[]⟩ : ByteArray).toList) = false := by
  have q1 : s.toList.isEmpty = false := by
    rw [Bool.eq_false_iff]; intro e
    apply hs
    have : s.toList = [] := by simpa using e
    exact (bytes_inj s ⟨#[]⟩).1 (by rw [this, ByteArray.toList_eq])
  have q2 : ¬ s.toList = [] := by simpa using q1
  refine ⟨q1, q2, ?_⟩
  rw [show (⟨#[]⟩ : ByteArray).toList = [] from by rw [ByteArray.toList_eq]]
  cases hx : s.toList with
  | nil => exact absurd hx q2
  | cons a b => rfl
end Go.Proofs.YtonbnmicgmnliaaDoor

namespace Go.Proofs.YtonbnmicgmnliaaDoor
set_option linter.unusedSimpArgs false
set_option linter.unusedVariables false
open Go.RowKit
set_option linter.unusedVariables false

/-- A token that came in: its numbers and bytes lie anywhere. -/
structure RdTok (w : World) (t : Tok) (a1 : Option Addr) (n1 : Nat) (a2 : Option Addr) (n2 : Nat) : Prop where
  params : Rd w a1 n1 (icells t.params)
  data : Rd w a2 n2 (bcells t.data)
  small : n1 ≤ 9223372036854775807 ∧ n2 ≤ 9223372036854775807 ∧ t.inters.length ≤ 9223372036854775807
theorem RdTok.gr {w w' : World} {t : Tok} {a1 a2 : Option Addr} {n1 n2 : Nat} (h : RdTok w t a1 n1 a2 n2) (hg : Gr w w') : RdTok w' t a1 n1 a2 n2 := ⟨h.params.gr hg, h.data.gr hg, h.small⟩
end Go.Proofs.YtonbnmicgmnliaaDoor

namespace Go.Proofs.YtonbnmicgmnliaaDoor
set_option linter.unusedSimpArgs false
set_option linter.unusedVariables false
open Go.RowKit
set_option linter.unusedVariables false

theorem icells_len (l : List Int) : (icells l).length = l.length := by simp [icells]
end Go.Proofs.YtonbnmicgmnliaaDoor
