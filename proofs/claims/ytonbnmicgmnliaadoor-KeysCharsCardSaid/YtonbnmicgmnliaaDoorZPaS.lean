/-
  A parser and its tokens in memory; what a step may change.
  A parser, its tokens and what a step leaves of them.
-/
import Derived.Test.YtonbnmicgmnliaaDoorZUp
import Derived.Test.YtonbnmicgmnliaaDoorZPaM
namespace Go.Proofs.YtonbnmicgmnliaaDoor
set_option linter.unusedSimpArgs false
set_option linter.unusedVariables false
set_option linter.unusedSectionVars false
open Go.RowKit
/-- The least block that the rows of a parser and its tokens may lie in. -/
class Bs where
  b : Nat
variable [Bs]

def tcells (t : Tok) (q : Value × Value) : List Value := [.int .i64 t.kind, .int .u8 t.code, .int .u8 t.mark, q.1, .string (strOf t.inters), q.2]
end Go.Proofs.YtonbnmicgmnliaaDoor

namespace Go.Proofs.YtonbnmicgmnliaaDoor
set_option linter.unusedSimpArgs false
set_option linter.unusedVariables false
set_option linter.unusedSectionVars false
open Go.RowKit
variable [Bs]

structure PS.ok (s : PS) : Prop where
  phase : 0 ≤ s.phase ∧ s.phase ≤ 4
  kind : 0 ≤ s.kind ∧ s.kind ≤ 9
  code : 0 ≤ s.code ∧ s.code < 256
  mark : 0 ≤ s.mark ∧ s.mark < 256
  inters : s.inters.length ≤ 3
  data : s.data.length ≤ 4096
  done : s.done.length ≤ 30
  now : 0 ≤ s.now ∧ s.now ≤ 65535

theorem blk_lt {w : World} {j : Nat} {b} (h : w.heap[j]? = some b) : j < w.heap.size := (Array.getElem?_eq_some_iff.1 h).1

variable {lv lv' K : List Nat} {w w' : World} {p o : Nat} {s s' : PS} {iv dv av ov : Value} {ts : List Tok} {qs : List (Value × Value)}

end Go.Proofs.YtonbnmicgmnliaaDoor
