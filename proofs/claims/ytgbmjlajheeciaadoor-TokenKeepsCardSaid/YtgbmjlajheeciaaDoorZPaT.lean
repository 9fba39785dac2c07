/-
  A parser and its tokens in memory; what a step may change.
  A parser, its tokens and what a step leaves of them.
  What appending leaves of a parser and its tokens.
  The parser's small methods, walked.
  The parser's method inter, walked.
  The parser's method text, walked.
  The accumulator's method Byte, walked.
  What a new token leaves of a parser and its tokens.
  The parser's method plain, walked.
-/
import Derived.Deep.RegionLaw
import Derived.Test.YtgbmjlajheeciaaDoorZCm
import Derived.Test.YtgbmjlajheeciaaDoorZPaN
namespace Go.Proofs.YtgbmjlajheeciaaDoor
set_option linter.unusedSimpArgs false
set_option linter.unusedVariables false
set_option linter.unusedSectionVars false
open Go.RowKit
/-- The least block that the rows of a parser and its tokens may lie in. -/
class Bs where
  b : Nat
variable [Bs]

/-- Of the blocks that were there only those of a list may have changed; there may be new ones. -/
structure Upd (lv : List Nat) (w w' : World) : Prop where
  os : w'.os = w.os
  tape : w'.tape = w.tape
  output : w'.output = w.output
  size : w.heap.size ≤ w'.heap.size
  block : ∀ k, k < w.heap.size → k ∉ lv → w'.heap[k]? = w.heap[k]?

theorem Upd.refl (lv : List Nat) (w : World) : Upd lv w w := ⟨rfl, rfl, rfl, Nat.le_refl _, fun _ _ _ => rfl⟩
theorem Upd.of_gr {lv : List Nat} {w w' : World} (h : Gr w w') : Upd lv w w' := ⟨h.os, h.tape, h.output, h.size, fun k hk _ => h.block k hk⟩
def tcells (t : Tok) (q : Value × Value) : List Value := [.int .i64 t.kind, .int .u8 t.code, .int .u8 t.mark, q.1, .string (strOf t.inters), q.2]
end Go.Proofs.YtgbmjlajheeciaaDoor

namespace Go.Proofs.YtgbmjlajheeciaaDoor
set_option linter.unusedSimpArgs false
set_option linter.unusedVariables false
set_option linter.unusedSectionVars false
open Go.RowKit
variable [Bs]

structure PS.ok (s : PS) : Prop where
  phase : 0 ≤ s.phase ∧ s.phase ≤ 4
  kind : 0 ≤ s.kind ∧ s.kind ≤ 9
  code : 0 ≤ s.code ∧ s.code < 256
  mark : 0 ≤ s.mark ∧ s.mark < 256
  inters : s.inters.length ≤ 3
  data : s.data.length ≤ 4096
  done : s.done.length ≤ 30
  now : 0 ≤ s.now ∧ s.now ≤ 65535

theorem blk_lt {w : World} {j : Nat} {b} (h : w.heap[j]? = some b) : j < w.heap.size := (Array.getElem?_eq_some_iff.1 h).1

variable {lv lv' K : List Nat} {w w' : World} {p o : Nat} {s s' : PS} {iv dv av ov : Value} {ts : List Tok} {qs : List (Value × Value)}

end Go.Proofs.YtgbmjlajheeciaaDoor

namespace Go.Proofs.YtgbmjlajheeciaaDoor
set_option linter.unusedSimpArgs false
set_option linter.unusedVariables false
set_option linter.unusedSectionVars false
section
open Go.RowKit
variable [Bs]

variable {lv lv' K : List Nat} {w w1 w2 : World} {p o : Nat} {s s' : PS} {iv dv av ov : Value} {ts : List Tok} {qs : List (Value × Value)}

end
section
open Go.RowKit
variable [Bs]

variable {lv : List Nat} {w : World} {p o : Nat} {s : PS} {ts : List Tok}

end
section
open Go.RowKit
variable [Bs]

variable {lv : List Nat} {w : World} {p o : Nat} {s : PS} {ts : List Tok}

theorem Upd.trans1 {a b c : World} {K : List Nat} (h : Upd K a b) (k : Upd K b c) : Upd K a c :=
  ⟨k.os.trans h.os, k.tape.trans h.tape, k.output.trans h.output, Nat.le_trans h.size k.size, fun i hi hn => (k.block i (Nat.lt_of_lt_of_le hi h.size) hn).trans (h.block i hi hn)⟩

end
section
open Go.RowKit
variable [Bs]

variable {lv : List Nat} {w : World} {p o : Nat} {s : PS} {ts : List Tok}

end
section
open Go.RowKit
variable [Bs]

variable {lv : List Nat} {w : World} {p o : Nat} {s : PS} {ts : List Tok}

end
section
open Go.RowKit
variable [Bs]

variable {lv : List Nat} {w w1 : World} {p o : Nat} {s : PS} {iv dv av ov : Value} {ts : List Tok} {qs : List (Value × Value)}

end
section
open Go.RowKit
variable [Bs]

variable {lv : List Nat} {w : World} {p o : Nat} {s : PS} {ts : List Tok}

end
end Go.Proofs.YtgbmjlajheeciaaDoor
