/-
  Rows of bytes and of numbers, and strings, over this seat's program.
-/
import Derived.Laws.BytesArg
import Derived.Test.YtfkecgkfcldffaaDoorRows
import Derived.Test.YtfkecgkfcldffaaDoorZOrd2
namespace Go.Proofs.YtfkecgkfcldffaaDoor
set_option linter.unusedSimpArgs false
set_option linter.unusedVariables false
open Go.RowKit

def bcells (l : List Int) : List Value := l.map (Value.int .u8)
def icells (l : List Int) : List Value := l.map (Value.int .i64)
def strOf (l : List Int) : ByteArray := ⟨(l.map fun c => UInt8.ofNat c.toNat).toArray⟩

theorem conv_row {w : World} {v : Value} {n : Nat} {l : List Int} (h : HasRow w 5 v n (bcells l)) : (convert 102 9 v).run Tryd.prog w = .ok (.string (strOf l)) w := by
  have hl : l.length = n := by simpa [bcells] using h.1
  rcases h.2 with ⟨rfl, rfl⟩ | ⟨g, cap, cur, rfl, hh, hn, hc, ht⟩
  · have : l = [] := List.eq_nil_of_length_eq_zero hl
    subst this
    exact run_convert_bytes_nil w _ 5 Tryd.underlying102 Tryd.underlying5 0 0 _ Tryd.underlying9
  · refine run_convert_bytes_arg w _ 5 Tryd.underlying102 Tryd.underlying5 g 0 n cap l hl (fun i hi => ?_) _ Tryd.underlying9
    rw [Nat.zero_add]
    refine h.cells (g := g) rfl i _ ?_
    simp [bcells, List.getD, List.getElem?_eq_getElem (show i < l.length by omega)]
end Go.Proofs.YtfkecgkfcldffaaDoor
