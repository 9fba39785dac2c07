/-
  What the functions on ids and names of the sets compute, in both texts.
-/
import Derived.Test.YtfkecgkfcldffaaDoorZCsWe
namespace Go.Proofs.YtfkecgkfcldffaaDoor
set_option linter.unusedSimpArgs false
set_option linter.unusedVariables false
open Go.RowKit

set_option maxRecDepth 100000 in
set_option maxHeartbeats 1000000 in
theorem of_any (n : Int) (w : World) :
    Calls Tryd.prog 86 #[.int .i64 n] w fun e w' => e = .returned (.agg #[.int .i64 (setNo n), .string (idOf n), .bool (wideOf n), .string (nameOf n)]) ∧ Gr w w' := by
  cases hb : between 1 17 n with
  | false =>
    go_enter Tryd.func86, Tryd.ntmps86
    go_wp2_with (go_at_call 94; refine (is_any _ _).mono ?_; rintro e w1 ⟨rfl, rfl⟩)
    refine bodyPost_ret (v := .agg #[.int .i64 0, .string ⟨#[]⟩, .bool false, .string ⟨#[]⟩]) (by simp [results, Tryd.results86, go_sem]) rfl ⟨by simp [setNo, idOf, wideOf, nameOf, hb], by (repeat (first | with_reducible (refine Gr.setCell ?_ ?hp _; case hp => (simp; try omega)) | with_reducible refine Gr.alloc ?_ _ | with_reducible refine Gr.drew ?_ | with_reducible refine Gr.drewN ?_ _ | with_reducible assumption | with_reducible exact Gr.refl _ | with_reducible refine Gr.trans ?_ (by assumption)))⟩
  | true =>
    obtain ⟨k, hk17, rfl⟩ : ∃ k : Nat, k < 17 ∧ n = k + 1 := ⟨(n - 1).toNat, by simp [between] at hb; omega, by simp [between] at hb; omega⟩
    have e0 : ((k : Int) + 1 - 1).toNat = k := by omega
    have hix := fun w => index_rows k (by omega) w
    unfold rowA at hix
    simp only [setNo, idOf, wideOf, nameOf, hb, if_true, e0]
    have hb' := Lib.hid hb
    clear hb e0
    have hbt : between 1 17 ((k : Int) + 1) = true := hb'.out
    go_enter Tryd.func86, Tryd.ntmps86
    go_wp2_with (first
      | (go_at_call 94; refine (is_any _ _).mono ?_; rintro e w1 ⟨rfl, rfl⟩)
      | (go_at_call 95; refine (rows_any _).mono ?_; rintro e w1 ⟨rfl, hb1⟩; have hk := hb1.keep)
      | (refine wpList_store_abs rfl 139 _ _ rfl w.heap.size #[.int .i64 (rowSet k), .string (rowId k), .bool (rowWide k), .string (rowName k)] rfl rfl 139 _ hk (by kernel_rfl) rfl (by kernel_rfl) ?_; intro w2 hh hb2 hs2))
    exact bodyPost_ret (v := .agg #[.int .i64 (rowSet k), .string (rowId k), .bool (rowWide k), .string (rowName k)])
      (results_cell_row rfl _ w2 w.heap.size 139 _ (0, 0) _ rfl hh Tryd.underlying139 rfl (by kernel_rfl)) rfl ⟨rfl, (((Gr.refl w).alloc _).trans hb1).step (Nat.le_refl _) hb2⟩
end Go.Proofs.YtfkecgkfcldffaaDoor
