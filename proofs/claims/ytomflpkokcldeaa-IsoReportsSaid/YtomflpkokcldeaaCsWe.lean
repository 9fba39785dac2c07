/-
  What the functions on ids and names of the sets compute, in both texts.
-/
import Derived.Test.YtomflpkokcldeaaCsWc
import Derived.Test.YtomflpkokcldeaaCsRow
namespace Go.Proofs.Ytomflpkokcldeaa
set_option linter.unusedSimpArgs false
set_option linter.unusedVariables false
open Go.RowKit

def rowA (k : Nat) : Array Value := #[.int .i64 (rowSet k), .string (rowId k), .bool (rowWide k), .string (rowName k)]
def rowsV : Array Value := ((List.range 24).flatMap fun k => (rowA k).toList).toArray
def zeroRows : Array Value := ((List.range 24).flatMap fun _ => [Value.int .i64 0, .string ByteArray.empty, .bool false, .string ByteArray.empty]).toArray

theorem index_rows (k : Nat) (hk : k < 24) (w : World) : (Instr.index 87 (.agg rowsV) (.int .i64 k)).run Try.prog w = .ok (.agg (rowA k)) w := by
  have H : k = 0 ∨ k = 1 ∨ k = 2 ∨ k = 3 ∨ k = 4 ∨ k = 5 ∨ k = 6 ∨ k = 7 ∨ k = 8 ∨ k = 9 ∨ k = 10 ∨ k = 11 ∨ k = 12 ∨ k = 13 ∨ k = 14 ∨ k = 15 ∨ k = 16 ∨ k = 17 ∨ k = 18 ∨ k = 19 ∨ k = 20 ∨ k = 21 ∨ k = 22 ∨ k = 23 := by omega
  rcases H with rfl | rfl | rfl | rfl | rfl | rfl | rfl | rfl | rfl | rfl | rfl | rfl | rfl | rfl | rfl | rfl | rfl | rfl | rfl | rfl | rfl | rfl | rfl | rfl
  all_goals (show _ = _; kernel_rfl)

set_option maxRecDepth 100000 in
set_option maxHeartbeats 1000000 in
theorem rows_any (w : World) :
    Calls Try.prog 49 #[] w fun e w' => e = .returned (.agg rowsV) ∧ Gr w w' := by
  have hz : ∀ w, (zeroValue 87).run Try.prog w = .ok (.agg zeroRows) w := fun _ => by kernel_rfl
  go_enter Try.func49, Try.ntmps49
  go_wp2_with (first
    | (refine wpList_build_to rfl 87 _ rfl rowsV (by kernel_rfl) ?_)
    | (refine wpList_store_abs rfl 87 _ _ rfl w.heap.size rowsV rfl rfl 87 _ (heap_alloc_new _ _) (by kernel_rfl) (by kernel_rfl) (by kernel_rfl) ?_; intro w1 hh hb hs))
  exact bodyPost_ret (v := .agg rowsV) (results_cell_row rfl _ w1 w.heap.size 87 rowsV (0, 0) _ rfl hh Try.underlying87 rfl (by kernel_rfl)) rfl ⟨rfl, ((Gr.refl w).alloc _).step (Nat.le_refl _) hb⟩
end Go.Proofs.Ytomflpkokcldeaa
