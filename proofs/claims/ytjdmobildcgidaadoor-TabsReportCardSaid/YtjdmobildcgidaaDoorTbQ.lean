/-
  Tab stops: what the operations leave where both texts' stops are looked at behind an act (gen_tbq.py).
-/
import Derived.Test.YtjdmobildcgidaaDoorTbO
import Derived.Test.YtjdmobildcgidaaDoorOrd6
namespace Go.Proofs.YtjdmobildcgidaaDoor
set_option linter.unusedSimpArgs false
set_option linter.unusedVariables false
open Go.RowKit
set_option linter.unusedVariables false
def pqB (p N bx : Nat) (va : Option Addr) (cap' : Nat) (n : Int) (L : List Nat) : Nat → Value → World → Prop
  | 0, v, _ => v = .pointer (some ⟨p, 0, none⟩)
  | 1, v, _ => v = .int .i64 (N : Nat)
  | 2, v, _ => v = .slice va N cap'
  | 3, v, _ => v = .int .i64 (N : Nat)
  | 4, v, _ => v = .bool false
  | 5, v, _ => v = .bool false
  | 6, v, _ => v = .pointer (some ⟨p, 0, none⟩)
  | 7, v, w => HasRow w 3 v L.length (ncells L)
  | 8, v, _ => v = .slice va N cap'
  | 9, v, w => HasRow w 3 v L.length (ncells L)
  | 10, v, _ => v = .bool true
  | 11, v, _ => v = .bool false
  | 12, v, _ => v = .bool false
  | 13, v, _ => v = .bool false
  | 14, v, _ => v = .pointer (some ⟨p, 0, none⟩)
  | 15, v, _ => v = .pointer (some ⟨bx, 1, none⟩)
  | 16, v, _ => v = .int .i64 n
  | 17, v, _ => v = .bool false
  | 18, v, _ => v = .pointer (some ⟨bx, 1, none⟩)
  | 19, v, _ => v = .int .i64 n
  | 20, v, _ => v = .bool true
  | 21, v, _ => v = .bool true
  | 22, v, _ => v = .pointer (some ⟨bx, 1, none⟩)
  | 23, v, _ => v = .int .i64 n
  | 24, v, _ => v = .slice va N cap'
  | 25, v, _ => v = .int .i64 (N : Nat)
  | 26, v, _ => v = .bool false
  | 27, v, _ => v = .bool false
  | 28, v, _ => v = .bool false
  | 34, v, _ => v = .bool false
  | 35, v, _ => v = .bool false
  | 36, v, _ => v = .bool false
  | _, _, _ => True
theorem pqB.gr {p N bx : Nat} {va : Option Addr} {cap' : Nat} {n : Int} {L : List Nat} {j : Nat} {u : Value} {w w' : World} (h : pqB p N bx va cap' n L j u w) (hg : Gr w w') : pqB p N bx va cap' n L j u w' := by
  match j, h with
  | 0, h | 1, h | 2, h | 3, h | 4, h | 5, h | 6, h | 8, h | 10, h | 11, h | 12, h | 13, h | 14, h | 15, h | 16, h | 17, h | 18, h | 19, h | 20, h | 21, h | 22, h | 23, h | 24, h | 25, h | 26, h | 27, h | 28, h | 34, h | 35, h | 36, h => exact h
  | 7, h | 9, h => exact HasRow.gr h hg
  | 29, _ | 30, _ | 31, _ | 32, _ | 33, _ | _ + 37, _ => exact trivial
def pqC (p N bx : Nat) (va : Option Addr) (cap' : Nat) (n : Int) (L : List Nat) : Nat → Value → World → Prop
  | 0, v, _ => v = .pointer (some ⟨p, 0, none⟩)
  | 1, v, _ => v = .int .i64 (N : Nat)
  | 2, v, _ => v = .slice va N cap'
  | 3, v, _ => v = .int .i64 (N : Nat)
  | 4, v, _ => v = .bool false
  | 5, v, _ => v = .bool false
  | 6, v, _ => v = .pointer (some ⟨p, 0, none⟩)
  | 7, v, w => HasRow w 3 v L.length (ncells L)
  | 8, v, _ => v = .slice va N cap'
  | 9, v, w => HasRow w 3 v L.length (ncells L)
  | 10, v, _ => v = .bool true
  | 11, v, _ => v = .bool false
  | 12, v, _ => v = .bool false
  | 13, v, _ => v = .bool false
  | 14, v, _ => v = .pointer (some ⟨p, 0, none⟩)
  | 15, v, _ => v = .pointer (some ⟨bx, 1, none⟩)
  | 16, v, _ => v = .int .i64 n
  | 17, v, _ => v = .bool false
  | 18, v, _ => v = .pointer (some ⟨bx, 1, none⟩)
  | 19, v, _ => v = .int .i64 n
  | 20, v, _ => v = .bool false
  | 21, v, _ => v = .bool false
  | 27, v, _ => v = .bool false
  | 28, v, _ => v = .bool false
  | 34, v, _ => v = .bool false
  | 35, v, _ => v = .bool false
  | 36, v, _ => v = .bool false
  | _, _, _ => True
theorem pqC.gr {p N bx : Nat} {va : Option Addr} {cap' : Nat} {n : Int} {L : List Nat} {j : Nat} {u : Value} {w w' : World} (h : pqC p N bx va cap' n L j u w) (hg : Gr w w') : pqC p N bx va cap' n L j u w' := by
  match j, h with
  | 0, h | 1, h | 2, h | 3, h | 4, h | 5, h | 6, h | 8, h | 10, h | 11, h | 12, h | 13, h | 14, h | 15, h | 16, h | 17, h | 18, h | 19, h | 20, h | 21, h | 27, h | 28, h | 34, h | 35, h | 36, h => exact h
  | 7, h | 9, h => exact HasRow.gr h hg
  | 22, _ | 23, _ | 24, _ | 25, _ | 26, _ | 29, _ | 30, _ | 31, _ | 32, _ | 33, _ | _ + 37, _ => exact trivial
end Go.Proofs.YtjdmobildcgidaaDoor
