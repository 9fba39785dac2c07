/-
  Tab stops in memory: set, cleared, asked for.
-/
import Derived.Test.YtjdmobildcgidaaDoorTbA
import Derived.Test.YtjdmobildcgidaaDoorSrc
import Derived.Test.YtjdmobildcgidaaDoorSs
import Derived.Test.YtjdmobildcgidaaDoorShelf
import Derived.Test.YtjdmobildcgidaaDoorLw4
import Derived.Test.YtjdmobildcgidaaDoorUp
import Derived.IntWalk
import Derived.BigQuiet
import Derived.Deep.QuietTactic
import Derived.StillTailTactics
import Derived.Laws.BitsAllLaws
import Derived.Lib.Hide
namespace Go.Proofs.YtjdmobildcgidaaDoor
set_option linter.unusedSimpArgs false
set_option linter.unusedVariables false
open Go.RowKit
set_option linter.unusedVariables false

/-- The cells of stops. -/
def stCells (n : Int) (f : Nat → Bool) : Array Value := #[.int .i64 n, .int .u64 (wordF f 0 : Nat), .int .u64 (wordF f 1 : Nat), .int .u64 (wordF f 2 : Nat), .int .u64 (wordF f 3 : Nat), .int .u64 (wordF f 4 : Nat), .int .u64 (wordF f 5 : Nat), .int .u64 (wordF f 6 : Nat), .int .u64 (wordF f 7 : Nat)]
def StAt (w : World) (p : Nat) (n : Int) (f : Nat → Bool) : Prop := w.heap[p]? = some (.cells (stCells n f) 45 (0, 0))
theorem stCells_word (n : Int) (f : Nat → Bool) (i : Nat) (h : i < 8) : (stCells n f)[1 + i]? = some (.int .u64 (wordF f i : Nat)) := by
  rcases (by omega : i = 0 ∨ i = 1 ∨ i = 2 ∨ i = 3 ∨ i = 4 ∨ i = 5 ∨ i = 6 ∨ i = 7) with rfl | rfl | rfl | rfl | rfl | rfl | rfl | rfl <;> rfl
theorem stCells_set (n : Int) (f : Nat → Bool) (c : Nat) (b : Bool) (h : c / 64 < 8) : (stCells n f).setIfInBounds (1 + c / 64) (.int .u64 (wordF (upd f c b) (c / 64) : Nat)) = stCells n (upd f c b) := by
  have ho := fun i (hi : i ≠ c / 64) => word_other f c i b hi
  generalize hk : c / 64 = k at h ho ⊢
  rcases (by omega : k = 0 ∨ k = 1 ∨ k = 2 ∨ k = 3 ∨ k = 4 ∨ k = 5 ∨ k = 6 ∨ k = 7) with rfl | rfl | rfl | rfl | rfl | rfl | rfl | rfl <;> (unfold stCells; simp [ho])
theorem StAt.cell0 {w : World} {p : Nat} {n : Int} {f : Nat → Bool} (h : StAt w p n f) : w.cell? ⟨p, 0, none⟩ = some (.int .i64 n) := cell_of_row h 0 _ rfl
theorem StAt.cell {w : World} {p : Nat} {n : Int} {f : Nat → Bool} (h : StAt w p n f) (i : Nat) (hi : i < 8) : w.cell? ⟨p, 1 + i, none⟩ = some (.int .u64 (wordF f i : Nat)) := cell_of_row h _ _ (stCells_word n f i hi)
theorem StAt.gr {w w' : World} {p : Nat} {n : Int} {f : Nat → Bool} (h : StAt w p n f) (hg : Gr w w') : StAt w' p n f := hg.blk h

theorem pow_small (k : Nat) (h : k < 64) : 2 ^ k < 18446744073709551616 := Nat.pow_lt_pow_right (by omega) h
/-- The state that a call changes lies in one block. -/
theorem StAt.setw {w : World} {p : Nat} {n : Int} {f : Nat → Bool} (h : StAt w p n f) (c : Nat) (b : Bool) (hc : c / 64 < 8) : StAt (w.setCell ⟨p, 1 + c / 64, none⟩ (.int .u64 (wordF (upd f c b) (c / 64) : Nat))) p n (upd f c b) := by
  unfold StAt at h ⊢
  have := blk_set h (1 + c / 64) (.int .u64 (wordF (upd f c b) (c / 64) : Nat))
  rw [stCells_set n f c b hc] at this
  exact this

set_option maxRecDepth 100000 in
set_option maxHeartbeats 1000000 in
theorem there_any (p : Nat) (n : Int) (f : Nat → Bool) (c : Int) (w : World) (h : StAt w p n f) : Calls Tryd.prog 34 #[.pointer (some ⟨p, 0, none⟩), .int .i64 c] w fun e w' => e = .returned (.bool (decide (0 ≤ c) && decide (c < n))) ∧ w = w' := by
  have h0 := h.cell0
  by_cases hc : 0 ≤ c
  · by_cases hn : c < n
    · go_enter Tryd.func34, Tryd.ntmps34
      go_wp2
      go_ret
      exact ⟨by simp [hc, hn], rfl⟩
    · go_enter Tryd.func34, Tryd.ntmps34
      go_wp2
      go_ret
      exact ⟨by simp [hn], rfl⟩
  · go_enter Tryd.func34, Tryd.ntmps34
    go_wp2
    go_ret
    exact ⟨by simp [hc]; omega, rfl⟩

set_option maxRecDepth 100000 in
set_option maxHeartbeats 1000000 in
theorem cols_any (p : Nat) (n : Int) (f : Nat → Bool) (w : World) (h : StAt w p n f) : Calls Tryd.prog 21 #[.pointer (some ⟨p, 0, none⟩)] w fun e w' => e = .returned (.int .i64 n) ∧ w = w' := by
  have h0 := h.cell0
  go_enter Tryd.func21, Tryd.ntmps21
  go_wp2
  go_ret
  exact ⟨rfl, rfl⟩

end Go.Proofs.YtjdmobildcgidaaDoor
