/-
  The plain tables of the sets of characters and what the two texts compute from them, in plain terms; no program in sight.
  What the program's sets of characters compute, function by function: the glyph of a code.
  The plain table of the sets: numbers, ids, sizes, names; finding by id; both texts find the same.
-/
import Derived.Laws.RangeAny
import Derived.Laws.Runes
import Derived.Lib.RuneCount
import Derived.Test.YtfkecgkfcldffaaDoorRows
import Derived.Test.YtfkecgkfcldffaaDoorZLw4
namespace Go.Proofs.YtfkecgkfcldffaaDoor
set_option linter.unusedSimpArgs false
set_option linter.unusedVariables false

def between (a b n : Int) : Bool := decide (a ≤ n) && decide (n ≤ b)

end Go.Proofs.YtfkecgkfcldffaaDoor

namespace Go.Proofs.YtfkecgkfcldffaaDoor
set_option linter.unusedSimpArgs false
set_option linter.unusedVariables false
open Go.RowKit

set_option maxHeartbeats 400000 in
theorem is_any (n : Int) (w : World) :
    Calls Tryd.prog 94 #[.int .i64 n] w fun e w' => e = .returned (.bool (between 1 17 n)) ∧ w = w' := by
  go_enter Tryd.func94, Tryd.ntmps94
  go_wp2
  all_goals (go_ret; refine ⟨?_, rfl⟩; simp [between]; try omega)

end Go.Proofs.YtfkecgkfcldffaaDoor

namespace Go.Proofs.YtfkecgkfcldffaaDoor
set_option linter.unusedSimpArgs false
set_option linter.unusedVariables false
def rowSet (k : Nat) : Int := match k with
  | 0 => 1
  | 1 => 2
  | 2 => 3
  | 3 => 4
  | 4 => 5
  | 5 => 6
  | 6 => 7
  | 7 => 8
  | 8 => 9
  | 9 => 10
  | 10 => 11
  | 11 => 12
  | 12 => 13
  | 13 => 14
  | 14 => 15
  | 15 => 16
  | 16 => 17
  | 17 => 8
  | 18 => 9
  | 19 => 10
  | 20 => 13
  | 21 => 13
  | 22 => 16
  | 23 => 2
  | _ => 0
def rowId (k : Nat) : ByteArray := match k with
  | 0 => ⟨#[66]⟩
  | 1 => ⟨#[48]⟩
  | 2 => ⟨#[62]⟩
  | 3 => ⟨#[37, 53]⟩
  | 4 => ⟨#[65]⟩
  | 5 => ⟨#[65]⟩
  | 6 => ⟨#[52]⟩
  | 7 => ⟨#[53]⟩
  | 8 => ⟨#[82]⟩
  | 9 => ⟨#[57]⟩
  | 10 => ⟨#[75]⟩
  | 11 => ⟨#[89]⟩
  | 12 => ⟨#[96]⟩
  | 13 => ⟨#[37, 54]⟩
  | 14 => ⟨#[90]⟩
  | 15 => ⟨#[55]⟩
  | 16 => ⟨#[61]⟩
  | 17 => ⟨#[67]⟩
  | 18 => ⟨#[102]⟩
  | 19 => ⟨#[81]⟩
  | 20 => ⟨#[69]⟩
  | 21 => ⟨#[54]⟩
  | 22 => ⟨#[72]⟩
  | 23 => ⟨#[50]⟩
  | _ => ⟨#[]⟩
def rowWide (k : Nat) : Bool := match k with
  | 0 => false
  | 1 => false
  | 2 => false
  | 3 => false
  | 4 => true
  | 5 => false
  | 6 => false
  | 7 => false
  | 8 => false
  | 9 => false
  | 10 => false
  | 11 => false
  | 12 => false
  | 13 => false
  | 14 => false
  | 15 => false
  | 16 => false
  | 17 => false
  | 18 => false
  | 19 => false
  | 20 => false
  | 21 => false
  | 22 => false
  | 23 => false
  | _ => false
def rowName (k : Nat) : ByteArray := match k with
  | 0 => ⟨#[97, 115, 99, 105, 105]⟩
  | 1 => ⟨#[115, 112, 101, 99, 105, 97, 108]⟩
  | 2 => ⟨#[116, 101, 99, 104, 110, 105, 99, 97, 108]⟩
  | 3 => ⟨#[115, 117, 112, 112, 108, 101, 109, 101, 110, 116, 97, 108]⟩
  | 4 => ⟨#[108, 97, 116, 105, 110]⟩
  | 5 => ⟨#[98, 114, 105, 116, 105, 115, 104]⟩
  | 6 => ⟨#[100, 117, 116, 99, 104]⟩
  | 7 => ⟨#[102, 105, 110, 110, 105, 115, 104]⟩
  | 8 => ⟨#[102, 114, 101, 110, 99, 104]⟩
  | 9 => ⟨#[99, 97, 110, 97, 100, 105, 97, 110]⟩
  | 10 => ⟨#[103, 101, 114, 109, 97, 110]⟩
  | 11 => ⟨#[105, 116, 97, 108, 105, 97, 110]⟩
  | 12 => ⟨#[110, 111, 114, 119, 101, 103, 105, 97, 110]⟩
  | 13 => ⟨#[112, 111, 114, 116, 117, 103, 117, 101, 115, 101]⟩
  | 14 => ⟨#[115, 112, 97, 110, 105, 115, 104]⟩
  | 15 => ⟨#[115, 119, 101, 100, 105, 115, 104]⟩
  | 16 => ⟨#[115, 119, 105, 115, 115]⟩
  | 17 => ⟨#[]⟩
  | 18 => ⟨#[]⟩
  | 19 => ⟨#[]⟩
  | 20 => ⟨#[]⟩
  | 21 => ⟨#[]⟩
  | 22 => ⟨#[]⟩
  | 23 => ⟨#[]⟩
  | _ => ⟨#[]⟩
def idOf (n : Int) : ByteArray := if between 1 17 n then rowId (n - 1).toNat else ⟨#[]⟩
def setNo (n : Int) : Int := if between 1 17 n then rowSet (n - 1).toNat else 0
def wideOf (n : Int) : Bool := if between 1 17 n then rowWide (n - 1).toNat else false
def nameOf (n : Int) : ByteArray := if between 1 17 n then rowName (n - 1).toNat else ⟨#[]⟩

end Go.Proofs.YtfkecgkfcldffaaDoor
