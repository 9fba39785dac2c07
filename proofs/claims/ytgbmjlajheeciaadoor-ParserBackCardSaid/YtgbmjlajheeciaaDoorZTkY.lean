/-
  Two tokens of the program's own made at once; the laws TokenFunctions and TokenUnlike, walked.
-/
import Derived.Test.YtgbmjlajheeciaaDoorZOrd5
import Derived.Test.YtgbmjlajheeciaaDoorZTkW
namespace Go.Proofs.YtgbmjlajheeciaaDoor
set_option linter.unusedSimpArgs false
set_option linter.unusedVariables false
open Go.RowKit
set_option linter.unusedVariables false

theorem OTok.mono {B B' : Nat} {w : World} {t : Tok} {q : Value × Value} (h : OTok B w t q) (hB : B' ≤ B) : OTok B' w t q := ⟨World.ownsRow.mono h.params hB, World.ownsRow.mono h.data hB⟩
theorem OTok.far {B g : Nat} {w1 w2 : World} {t : Tok} {q : Value × Value} {cs : Array Value} (h : OTok B w1 t q) (hb : w1.heap[g]? = some (.cells cs 27 (0, 0))) (ho : ∀ k, k ≠ g → w2.heap[k]? = w1.heap[k]?) : OTok B w2 t q := by
  have hne : ∀ {e n : Nat} {v : Value} {xs : List Value}, w1.ownsRow B e 1 v n xs → e ≠ 27 → ∀ k, v.ownBlock = some k → k ≠ g := by
    intro e n v xs hr he k hk e1
    subst e1
    rcases hr.2 with ⟨rfl, _⟩ | ⟨g', cap, cur, rfl, _, hh, _⟩
    · cases hk
    · injection hk with hk
      simp only at hk
      subst hk
      rw [hb] at hh
      injection hh with hh
      injection hh with _ h2 _
      exact he h2.symm
  exact ⟨ownsRow_same h.params fun k hk => ho k (hne h.params (by decide) k hk), ownsRow_same h.data fun k hk => ho k (hne h.data (by decide) k hk)⟩

section
variable {wR w1 w2 : World} {T1 T2 : Tok} {k1 c1 m1 k2 c2 m2 : Int} {s1 s2 : ByteArray} {n1 o1 n2 o2 : Nat} {A1 A2 : Value} {j : Nat} {ys : Nat → Value}
end

end Go.Proofs.YtgbmjlajheeciaaDoor
