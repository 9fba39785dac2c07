/-
  The machine that takes byte by byte says what the document's reading of the whole stream says.
  The machine that takes byte by byte says what the document's reading of the whole stream says: the whole of it.
  A whole stream: the machine's tokens, and whether something is left begun, are the document's.
-/
import Derived.Test.YtonbnmicgmnliaaGreatDoorZPaM
namespace Go.Proofs.YtonbnmicgmnliaaGreatDoor
set_option linter.unusedSimpArgs false
set_option linter.unusedVariables false
section
/-! ### Behind an escape -/
/-! ### In the numbers of a sequence -/
end
section
/-! ### In a string -/
end
section
/-- What a parser is fed, byte by byte. -/
def feedM (s : PS) (l : List Int) : PS × List Tok := runM s (plainL l)
theorem feed_append (s : PS) (a b : List Int) : feedM s (a ++ b) = ((feedM (feedM s a).1 b).1, (feedM s a).2 ++ (feedM (feedM s a).1 b).2) := by
  simp only [feedM, plainL, List.flatMap_append, runM_append]

end
end Go.Proofs.YtonbnmicgmnliaaGreatDoor
