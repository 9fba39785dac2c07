/-
  An act done in both texts: law10's do, walked kind by kind.
-/
import Derived.Test.YtfkecgkfcldffaaGreatDoorZOrd2
import Derived.Test.YtfkecgkfcldffaaGreatDoorZIsC
import Derived.Test.YtfkecgkfcldffaaGreatDoorZIsD
import Derived.Test.YtfkecgkfcldffaaGreatDoorZPaT
namespace Go.Proofs.YtfkecgkfcldffaaGreatDoor
set_option linter.unusedSimpArgs false
set_option linter.unusedVariables false
open Go.RowKit
set_option linter.unusedVariables false

/-- A state's seven numbers. -/
structure S7 where
  a0 : Int
  a1 : Int
  a2 : Int
  a3 : Int
  a4 : Int
  a5 : Int
  a6 : Int
def S7.cells (X : S7) : Array Value := #[.int .i64 X.a0, .int .i64 X.a1, .int .i64 X.a2, .int .i64 X.a3, .int .i64 X.a4, .int .i64 X.a5, .int .i64 X.a6]
def doS (k n : Int) (wide : Bool) (id : ByteArray) (cd : Int) (X : S7) : S7 :=
  if k = 1 then ⟨selI (desOk wide id n && decide (n = 0)) (findP wide id) X.a0, selI (desOk wide id n && decide (n = 1)) (findP wide id) X.a1, selI (desOk wide id n && decide (n = 2)) (findP wide id) X.a2, selI (desOk wide id n && decide (n = 3)) (findP wide id) X.a3, X.a4, X.a5, X.a6⟩
  else if k = 2 then { X with a4 := selI (between 0 3 n) n X.a4 }
  else if k = 3 then { X with a5 := selI (between 1 3 n) n X.a5 }
  else if k = 4 then { X with a6 := selI (between 2 3 n) n X.a6 }
  else if k = 5 then { X with a6 := selI (decide (cd % 128 < 32)) X.a6 0 }
  else X
theorem setRow_upd {w : World} {g : Nat} {cs : Array Value} : Upd [g] w (w.setRow g cs) := ⟨rfl, rfl, rfl, by simp [World.setRow], fun k _ hk => setRow_other w g k cs (by simpa using hk)⟩
theorem blk_lt0 {w : World} {j : Nat} {b} (h : w.heap[j]? = some b) : j < w.heap.size := (Array.getElem?_eq_some_iff.1 h).1
end Go.Proofs.YtfkecgkfcldffaaGreatDoor
