/-
  What the functions on ids and names of the sets compute, in both texts.
-/
import Derived.Test.YtfkecgkfcldffaaDoorZCsRow
namespace Go.Proofs.YtfkecgkfcldffaaDoor
set_option linter.unusedSimpArgs false
set_option linter.unusedVariables false
open Go.RowKit

def rowA (k : Nat) : Array Value := #[.int .i64 (rowSet k), .string (rowId k), .bool (rowWide k), .string (rowName k)]
def rowsV : Array Value := ((List.range 24).flatMap fun k => (rowA k).toList).toArray
def zeroRows : Array Value := ((List.range 24).flatMap fun _ => [Value.int .i64 0, .string ByteArray.empty, .bool false, .string ByteArray.empty]).toArray

theorem index_rows (k : Nat) (hk : k < 24) (w : World) : (Instr.index 147 (.agg rowsV) (.int .i64 k)).run Tryd.prog w = .ok (.agg (rowA k)) w := by
  have H : k = 0 ∨ k = 1 ∨ k = 2 ∨ k = 3 ∨ k = 4 ∨ k = 5 ∨ k = 6 ∨ k = 7 ∨ k = 8 ∨ k = 9 ∨ k = 10 ∨ k = 11 ∨ k = 12 ∨ k = 13 ∨ k = 14 ∨ k = 15 ∨ k = 16 ∨ k = 17 ∨ k = 18 ∨ k = 19 ∨ k = 20 ∨ k = 21 ∨ k = 22 ∨ k = 23 := by omega
  rcases H with rfl | rfl | rfl | rfl | rfl | rfl | rfl | rfl | rfl | rfl | rfl | rfl | rfl | rfl | rfl | rfl | rfl | rfl | rfl | rfl | rfl | rfl | rfl | rfl
  all_goals (show _ = _; kernel_rfl)

set_option maxRecDepth 100000 in
set_option maxHeartbeats 1000000 in
theorem rows_any (w : World) :
    Calls Tryd.prog 95 #[] w fun e w' => e = .returned (.agg rowsV) ∧ Gr w w' := by
  have hz : ∀ w, (zeroValue 147).run Tryd.prog w = .ok (.agg zeroRows) w := fun _ => by kernel_rfl
  go_enter Tryd.func95, Tryd.ntmps95
  go_wp2_with (first
    | (refine wpList_build_to rfl 147 _ rfl rowsV (by kernel_rfl) ?_)
    | (refine wpList_store_abs rfl 147 _ _ rfl w.heap.size rowsV rfl rfl 147 _ (heap_alloc_new _ _) (by kernel_rfl) (by kernel_rfl) (by kernel_rfl) ?_; intro w1 hh hb hs))
  exact bodyPost_ret (v := .agg rowsV) (results_cell_row rfl _ w1 w.heap.size 147 rowsV (0, 0) _ rfl hh Tryd.underlying147 rfl (by kernel_rfl)) rfl ⟨rfl, ((Gr.refl w).alloc _).step (Nat.le_refl _) hb⟩
end Go.Proofs.YtfkecgkfcldffaaDoor
