/-
  Keys with texts: the law UdkFull, walked.
-/
import Derived.Deep.OwnRows
import Derived.Test.YtonbnmicgmnliaaGreatDoorZUdH
namespace Go.Proofs.YtonbnmicgmnliaaGreatDoor
set_option linter.unusedSimpArgs false
set_option linter.unusedVariables false
open Go.RowKit
set_option linter.unusedVariables false

def d4 (n : Nat) : List UInt8 := List.replicate n 68
theorem KAt.fresh (w : World) : KAt (w.alloc (.cells #[.string ⟨#[]⟩, .string ⟨#[]⟩, .string ⟨#[]⟩, .string ⟨#[]⟩, .string ⟨#[]⟩, .string ⟨#[]⟩, .string ⟨#[]⟩, .string ⟨#[]⟩, .string ⟨#[]⟩, .string ⟨#[]⟩, .string ⟨#[]⟩, .string ⟨#[]⟩, .string ⟨#[]⟩, .string ⟨#[]⟩, .string ⟨#[]⟩, .string ⟨#[]⟩, .string ⟨#[]⟩, .string ⟨#[]⟩, .bool false] 27)) w.heap.size noL false := ⟨heap_alloc_new w _, rfl⟩
end Go.Proofs.YtonbnmicgmnliaaGreatDoor
