/-
  Answers of few numbers: the cursor's place and modes, in both texts.
-/
import Derived.Deep.RegionHeld3
import Derived.Test.YtonbnmicgmnliaaDoorZPdE
import Derived.Test.YtonbnmicgmnliaaDoorZTkN
import Derived.Test.YtonbnmicgmnliaaDoorZOrd6
import Derived.Test.YtonbnmicgmnliaaDoorZTkR
import Derived.Test.YtonbnmicgmnliaaDoorZTkS
import Derived.Test.YtonbnmicgmnliaaDoorZRyE
namespace Go.Proofs.YtonbnmicgmnliaaDoor
set_option linter.unusedSimpArgs false
set_option linter.unusedVariables false
open Go.RowKit
set_option linter.unusedVariables false

def csiR (id ps : List Int) (eight : Bool) : List Int := ansR (funT 4 id ps []) eight
theorem hasRow_lit {w : World} {g n : Nat} {l : List Int} {cs : Array Value} (hn : l.length = n) (hc : cs = (icells l).toArray) (h : w.heap[g]? = some (.cells cs 3 (0, 0))) : HasRow w 3 (.slice (some ⟨g, 0, none⟩) n n) n (icells l) := by
  subst hc
  refine ⟨by rw [icells_len]; exact hn, .inr ⟨g, n, _, rfl, ⟨_, h⟩, Nat.le_refl _, by simp [icells_len, hn], ?_⟩⟩
  exact List.take_of_length_le (by simp [icells_len, hn])
end Go.Proofs.YtonbnmicgmnliaaDoor
