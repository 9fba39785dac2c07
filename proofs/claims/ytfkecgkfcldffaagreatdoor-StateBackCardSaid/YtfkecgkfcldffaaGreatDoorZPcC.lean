/-
  The document's small functions on bytes, walked.
  The document's plain stream, walked.
-/
import Derived.Test.YtfkecgkfcldffaaGreatDoorZPbK
namespace Go.Proofs.YtfkecgkfcldffaaGreatDoor
set_option linter.unusedSimpArgs false
set_option linter.unusedVariables false
open Go.RowKit

/-- The bytes of a string as numbers. -/
def bl (s : ByteArray) : List Int := s.data.toList.map fun b => (b.toNat : Int)
end Go.Proofs.YtfkecgkfcldffaaGreatDoor

namespace Go.Proofs.YtfkecgkfcldffaaGreatDoor
set_option linter.unusedSimpArgs false
set_option linter.unusedVariables false
open Go.RowKit

theorem Rd.gr {w w' : World} {a : Option Addr} {n : Nat} {xs : List Value} (h : Rd w a n xs) (hg : Gr w w') : Rd w' a n xs := h.upd (Upd.of_gr (lv := []) hg) (by simp [Out])
end Go.Proofs.YtfkecgkfcldffaaGreatDoor
