/-
  A parser and its tokens in memory; what a step may change.
  A parser, its tokens and what a step leaves of them.
  What appending leaves of a parser and its tokens.
  The parser's small methods, walked.
  The parser's method inter, walked.
  The parser's method text, walked.
  The accumulator's method Byte, walked.
  What a new token leaves of a parser and its tokens.
  The parser's method plain, walked.
-/
import Derived.Deep.RegionLaw
import Derived.Test.YtfkecgkfcldffaaGreatDoorZPw
import Derived.Test.YtfkecgkfcldffaaGreatDoorZSrc
import Derived.Test.YtfkecgkfcldffaaGreatDoorZPaN
namespace Go.Proofs.YtfkecgkfcldffaaGreatDoor
set_option linter.unusedSimpArgs false
set_option linter.unusedVariables false
set_option linter.unusedSectionVars false
open Go.RowKit
/-- The least block that the rows of a parser and its tokens may lie in. -/
class Bs where
  b : Nat
variable [Bs]

end Go.Proofs.YtfkecgkfcldffaaGreatDoor

namespace Go.Proofs.YtfkecgkfcldffaaGreatDoor
set_option linter.unusedSimpArgs false
set_option linter.unusedVariables false
set_option linter.unusedSectionVars false
open Go.RowKit
variable [Bs]

structure PS.ok (s : PS) : Prop where
  phase : 0 ≤ s.phase ∧ s.phase ≤ 4
  kind : 0 ≤ s.kind ∧ s.kind ≤ 9
  code : 0 ≤ s.code ∧ s.code < 256
  mark : 0 ≤ s.mark ∧ s.mark < 256
  inters : s.inters.length ≤ 3
  data : s.data.length ≤ 4096
  done : s.done.length ≤ 30
  now : 0 ≤ s.now ∧ s.now ≤ 65535

theorem blk_lt {w : World} {j : Nat} {b} (h : w.heap[j]? = some b) : j < w.heap.size := (Array.getElem?_eq_some_iff.1 h).1

variable {lv lv' K : List Nat} {w w' : World} {p o : Nat} {s s' : PS} {iv dv av ov : Value} {ts : List Tok} {qs : List (Value × Value)}

end Go.Proofs.YtfkecgkfcldffaaGreatDoor

namespace Go.Proofs.YtfkecgkfcldffaaGreatDoor
set_option linter.unusedSimpArgs false
set_option linter.unusedVariables false
set_option linter.unusedSectionVars false
section
open Go.RowKit
variable [Bs]

variable {lv lv' K : List Nat} {w w1 w2 : World} {p o : Nat} {s s' : PS} {iv dv av ov : Value} {ts : List Tok} {qs : List (Value × Value)}

end
section
open Go.RowKit
variable [Bs]

variable {lv : List Nat} {w : World} {p o : Nat} {s : PS} {ts : List Tok}

end
section
open Go.RowKit
variable [Bs]

variable {lv : List Nat} {w : World} {p o : Nat} {s : PS} {ts : List Tok}

theorem int_info : (Tryz.prog.info? 3).map (fun i => (i.zero, i.size, i.bytes)) = some (some (.int .i64 0), 1, 8) := by kernel_rfl

end
section
open Go.RowKit
variable [Bs]

variable {lv : List Nat} {w : World} {p o : Nat} {s : PS} {ts : List Tok}

end
section
open Go.RowKit
variable [Bs]

variable {lv : List Nat} {w : World} {p o : Nat} {s : PS} {ts : List Tok}

end
section
open Go.RowKit
variable [Bs]

variable {lv : List Nat} {w w1 : World} {p o : Nat} {s : PS} {iv dv av ov : Value} {ts : List Tok} {qs : List (Value × Value)}

end
section
open Go.RowKit
variable [Bs]

variable {lv : List Nat} {w : World} {p o : Nat} {s : PS} {ts : List Tok}

end
end Go.Proofs.YtfkecgkfcldffaaGreatDoor
