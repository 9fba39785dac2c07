/-
  A token of the program's own, made of one that came in: Own, walked.
-/
import Derived.Laws.Tables
import Derived.Test.YtonbnmicgmnliaaDoorZTkP
import Derived.Test.YtonbnmicgmnliaaDoorZSrcN
namespace Go.Proofs.YtonbnmicgmnliaaDoor
set_option linter.unusedSimpArgs false
set_option linter.unusedVariables false
open Go.RowKit
set_option linter.unusedVariables false

theorem intsT : Tryd.prog.underlying 85 = some (.slice 3) := Tryd.underlying85
theorem intI : (Tryd.prog.info? 3).map (fun i => (i.zero, i.size, i.bytes)) = some (some (.int .i64 0), 1, 8) := by kernel_rfl
theorem src_rd {P : Program} {t e : TypeId} (ht : P.underlying t = some (.slice e)) {w : World} {a : Option Addr} {n cap : Nat} {xs : List Value} (h : Rd w a n xs) (h1 : ∀ c ∈ xs, c.oneCell' = true) : Src P 1 t (.slice a n cap) n xs w := by
  have hl := h.1
  cases a with
  | none =>
    rcases h.2 with h0 | ⟨b, off, hb, _⟩
    · subst h0
      have : xs = [] := List.eq_nil_of_length_eq_zero hl
      subst this
      exact src_nil ht cap
    · cases hb
  | some x =>
    refine Src.ofSlice w ht x n cap xs (by omega) (fun j v hv => ?_) h1
    have hj : j < xs.length := (List.getElem?_eq_some_iff.1 hv).1
    rcases h.2 with h0 | ⟨b, off, hb, hc⟩
    · omega
    · injection hb with hb
      subst hb
      have e : (⟨b, off, none⟩ : Addr).add j = ⟨b, off + j, none⟩ := by rcases j with _ | j <;> simp [Addr.add]
      rw [e]
      exact hc j v hv

end Go.Proofs.YtonbnmicgmnliaaDoor
