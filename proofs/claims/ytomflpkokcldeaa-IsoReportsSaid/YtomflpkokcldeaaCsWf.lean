/-
  What the functions on ids and names of the sets compute, in both texts.
-/
import Derived.Test.YtomflpkokcldeaaCsWe
namespace Go.Proofs.Ytomflpkokcldeaa
set_option linter.unusedSimpArgs false
set_option linter.unusedVariables false
open Go.RowKit

theorem rowId_size (k : Nat) : (rowId k).size ≤ 2 := by unfold rowId; split <;> decide

set_option maxRecDepth 100000 in
set_option maxHeartbeats 1000000 in
theorem find_any (wide : Bool) (id : ByteArray) (w : World) :
    Calls Try.prog 30 #[.bool wide, .string id] w fun e w' => e = .returned (.tuple #[.int .i64 (findP wide id), .bool (decide (findP wide id ≠ 0))]) ∧ Gr w w' := by
  have hix : ∀ (k : Nat) (w : World), k < 24 → (Instr.index 87 (.agg rowsV) (.int .i64 k)).run Try.prog w = .ok (.agg #[.int .i64 (rowSet k), .string (rowId k), .bool (rowWide k), .string (rowName k)]) w := fun k w h => index_rows k h w
  go_enter Try.func30, Try.ntmps30
  go_wp2_with (go_at_call 49; refine (rows_any _).mono ?_; rintro e w1 ⟨rfl, hb⟩)
  go_loopw [9] (fun i w' => ∃ k : Nat, k ≤ 24 ∧ i = .int .i64 k ∧ Gr w w' ∧ findFrom wide id (24 - k) k = findP wide id) (fun i _ => 24 - (intOf i).toNat)
  case atStart => exact ⟨0, by omega, rfl, hb, rfl⟩
  case round =>
    obtain ⟨k, hk, rfl, hgr, hf⟩ := hrel
    by_cases hlt : k < 24
    · have h1 := hix k
      clear hix
      go_wp2
      · have e1 : rowId k = id := (bytes_inj _ _).1 (by assumption)
        have e2 : rowWide k = wide := by simpa using (show (rowWide k == wide) = true by assumption)
        have h2 : findP wide id = rowSet k := by
          rw [← hf, show 24 - k = (23 - k) + 1 by omega, findFrom, if_pos ⟨e1, e2⟩]
        have h3 : rowSet k ≠ 0 := rowSet_pos k hlt
        go_ret2
        exact ⟨by simp [h2, h3], by (repeat (first | with_reducible (refine Gr.setCell ?_ ?hp _; case hp => (simp; try omega)) | with_reducible refine Gr.alloc ?_ _ | with_reducible refine Gr.drew ?_ | with_reducible refine Gr.drewN ?_ _ | with_reducible assumption | with_reducible exact Gr.refl _ | with_reducible refine Gr.trans ?_ (by assumption)))⟩
      · have e2 : ¬ rowWide k = wide := by simpa using (show (rowWide k == wide) = false by assumption)
        go_roundw
        case rel => exact ⟨k + 1, by omega, by go_num, by (repeat (first | with_reducible (refine Gr.setCell ?_ ?hp _; case hp => (simp; try omega)) | with_reducible refine Gr.alloc ?_ _ | with_reducible refine Gr.drew ?_ | with_reducible refine Gr.drewN ?_ _ | with_reducible assumption | with_reducible exact Gr.refl _ | with_reducible refine Gr.trans ?_ (by assumption))), by rw [← hf, show 24 - k = (24 - (k + 1)) + 1 by omega, findFrom, if_neg (fun x => e2 x.2)]⟩
        case measure => simp [intOf]; omega
      · have e1 : ¬ rowId k = id := fun x => (show ¬ (rowId k).toList = id.toList by assumption) ((bytes_inj _ _).2 x)
        go_roundw
        case rel => exact ⟨k + 1, by omega, by go_num, by (repeat (first | with_reducible (refine Gr.setCell ?_ ?hp _; case hp => (simp; try omega)) | with_reducible refine Gr.alloc ?_ _ | with_reducible refine Gr.drew ?_ | with_reducible refine Gr.drewN ?_ _ | with_reducible assumption | with_reducible exact Gr.refl _ | with_reducible refine Gr.trans ?_ (by assumption))), by rw [← hf, show 24 - k = (24 - (k + 1)) + 1 by omega, findFrom, if_neg (fun x => e1 x.1)]⟩
        case measure => simp [intOf]; omega
    · obtain rfl : k = 24 := by omega
      have h2 : findP wide id = 0 := hf.symm
      go_wp2
      go_ret2
      exact ⟨by simp [h2], hgr⟩

set_option maxRecDepth 100000 in
set_option maxHeartbeats 1000000 in
theorem of_any (n : Int) (w : World) :
    Calls Try.prog 51 #[.int .i64 n] w fun e w' => e = .returned (.agg #[.int .i64 (setNo n), .string (idOf n), .bool (wideOf n), .string (nameOf n)]) ∧ Gr w w' := by
  cases hb : between 1 17 n with
  | false =>
    go_enter Try.func51, Try.ntmps51
    go_wp2_with (go_at_call 39; refine (is_any _ _).mono ?_; rintro e w1 ⟨rfl, rfl⟩)
    refine bodyPost_ret (v := .agg #[.int .i64 0, .string ⟨#[]⟩, .bool false, .string ⟨#[]⟩]) (by simp [results, Try.results51, go_sem]) rfl ⟨by simp [setNo, idOf, wideOf, nameOf, hb], by (repeat (first | with_reducible (refine Gr.setCell ?_ ?hp _; case hp => (simp; try omega)) | with_reducible refine Gr.alloc ?_ _ | with_reducible refine Gr.drew ?_ | with_reducible refine Gr.drewN ?_ _ | with_reducible assumption | with_reducible exact Gr.refl _ | with_reducible refine Gr.trans ?_ (by assumption)))⟩
  | true =>
    obtain ⟨k, hk17, rfl⟩ : ∃ k : Nat, k < 17 ∧ n = k + 1 := ⟨(n - 1).toNat, by simp [between] at hb; omega, by simp [between] at hb; omega⟩
    have e0 : ((k : Int) + 1 - 1).toNat = k := by omega
    have hix := fun w => index_rows k (by omega) w
    unfold rowA at hix
    simp only [setNo, idOf, wideOf, nameOf, hb, if_true, e0]
    have hb' := Lib.hid hb
    clear hb e0
    have hbt : between 1 17 ((k : Int) + 1) = true := hb'.out
    go_enter Try.func51, Try.ntmps51
    go_wp2_with (first
      | (go_at_call 39; refine (is_any _ _).mono ?_; rintro e w1 ⟨rfl, rfl⟩)
      | (go_at_call 49; refine (rows_any _).mono ?_; rintro e w1 ⟨rfl, hb1⟩; have hk := hb1.keep)
      | (refine wpList_store_abs rfl 86 _ _ rfl w.heap.size #[.int .i64 (rowSet k), .string (rowId k), .bool (rowWide k), .string (rowName k)] rfl rfl 86 _ hk (by kernel_rfl) rfl (by kernel_rfl) ?_; intro w2 hh hb2 hs2))
    exact bodyPost_ret (v := .agg #[.int .i64 (rowSet k), .string (rowId k), .bool (rowWide k), .string (rowName k)])
      (results_cell_row rfl _ w2 w.heap.size 86 _ (0, 0) _ rfl hh Try.underlying86 rfl (by kernel_rfl)) rfl ⟨rfl, (((Gr.refl w).alloc _).trans hb1).step (Nat.le_refl _) hb2⟩
end Go.Proofs.Ytomflpkokcldeaa
