/-
  A token that came in as an argument: what a walk is told of it.
-/
import Derived.ChangeOld
import Derived.Deep.Fields
import Derived.OpenShut
import Derived.ProofKit
import Derived.SizedLaws
import Derived.WideShapes
import Derived.Test.YtonbnmicgmnliaaDoorZTkN
namespace Go.Proofs.YtonbnmicgmnliaaDoor
set_option linter.unusedSimpArgs false
set_option linter.unusedVariables false
open Go.ChangeShapes Go.WideShapes Go.ChangeAt Go.Deep Go.RowKit
set_option linter.unusedVariables false

/-- A text's bytes as numbers. -/
def nums (s : ByteArray) : List Int := s.data.toList.map fun b => (b.toNat : Int)
theorem nums_str (s : ByteArray) : strOf (nums s) = s := by
  unfold nums
  rw [strOf_bytes]
theorem nums_in (s : ByteArray) : ∀ c ∈ nums s, 0 ≤ c ∧ c < 256 := by
  intro c hc
  obtain ⟨b, _, rfl⟩ := List.mem_map.1 hc
  have := b.toNat_lt
  omega
theorem nums_len (s : ByteArray) : (nums s).length = s.size := by unfold nums; rw [List.length_map, Array.length_toList]; rfl
theorem int_u8 {c : Int} (h : (Lit.int .u8 c).wf = true) : 0 ≤ c ∧ c < 256 := by
  have h2 : IntKind.u8.min ≤ c ∧ c ≤ IntKind.u8.max := by simpa [Lit.wf] using h
  have e1 : IntKind.u8.min = 0 := rfl
  have e2 : IntKind.u8.max = 255 := rfl
  omega

end Go.Proofs.YtonbnmicgmnliaaDoor
