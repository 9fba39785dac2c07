/-
  Tab stops: asked for; cleared; copied.
-/
import Derived.Test.YtjdmobildcgidaaDoorTbC
namespace Go.Proofs.YtjdmobildcgidaaDoor
set_option linter.unusedSimpArgs false
set_option linter.unusedVariables false
open Go.RowKit
set_option linter.unusedVariables false

set_option maxRecDepth 100000 in
set_option maxHeartbeats 1000000 in
theorem has_in (p n c : Nat) (f : Nat → Bool) (w : World) (h : StAt w p n f) (hn : n ≤ 500) (hc : c < n) : Calls Tryd.prog 15 #[.pointer (some ⟨p, 0, none⟩), .int .i64 (c : Int)] w fun e w' => e = .returned (.bool (f c)) ∧ w = w' := by
  have ht := there_any p n f c w h
  have hcc : (c : Int) < (n : Int) := by omega
  simp only [Int.natCast_nonneg, decide_true, hcc, Bool.and_self] at ht
  have hh := word_has f c
  obtain ⟨q, hq⟩ : ∃ q, c / 64 = q := ⟨_, rfl⟩
  obtain ⟨r, hr⟩ : ∃ r, c % 64 = r := ⟨_, rfl⟩
  have hdiv : (c : Int) / 64 = (q : Int) := by omega
  have hmod : (c : Int) % 64 = (r : Int) := by omega
  have hq8 : q < 8 := by omega
  have hq8i : (q : Int) < 8 := by omega
  have hr64 : r < 64 := by omega
  have hwq : IntKind.i64.wrap (q : Int) = (q : Int) := IntWalk.i64_in _ (by omega)
  have htm : (c : Int).tmod 64 = (r : Int) := by rw [Int.tmod_eq_emod_of_nonneg (by omega)]; exact hmod
  rw [hq, hr] at hh
  have hcell := h.cell q hq8
  obtain ⟨W, hW⟩ : ∃ W, wordF f q = W := ⟨_, rfl⟩
  have hWl := word_lt f q
  rw [hW] at hcell hh hWl
  have hand : bits BinOp.and IntKind.u64 ((W : Int) / 2 ^ r) 1 = ((f c).toNat : Int) := by
    have h1 : ((W : Int) / 2 ^ r) = ((W / 2 ^ r : Nat) : Int) := by simp
    have h2 : W / 2 ^ r < 18446744073709551616 := Nat.lt_of_le_of_lt (Nat.div_le_self _ _) hWl
    have h3 := u64_and_nat (W / 2 ^ r) 1 h2 (by decide)
    rw [nat_mask1, hh] at h3
    rw [h1]; exact h3
  cases hf : f c
  all_goals
    rw [hf] at hand
    simp only [Bool.toNat_true, Bool.toNat_false, Int.cast_ofNat_Int] at hand
    have HQ := Lib.hid hq; have HR := Lib.hid hr; have HW := Lib.hid hW; have HF := Lib.hid hf; have HH := Lib.hid hh
    clear hq hr hW hf hh
    go_enter Tryd.func15, Tryd.ntmps15
    go_wp2_with (go_at_call 34; (with_reducible refine ht.mono ?_); rintro e w1 ⟨rfl, rfl⟩)
    go_ret
    exact ⟨rfl, rfl⟩

set_option maxRecDepth 100000 in
set_option maxHeartbeats 1000000 in
theorem has_out (p : Nat) (n c : Int) (f : Nat → Bool) (w : World) (h : StAt w p n f) (hc : (decide (0 ≤ c) && decide (c < n)) = false) : Calls Tryd.prog 15 #[.pointer (some ⟨p, 0, none⟩), .int .i64 c] w fun e w' => e = .returned (.bool false) ∧ w = w' := by
  have ht := there_any p n f c w h
  rw [hc] at ht
  clear hc
  go_enter Tryd.func15, Tryd.ntmps15
  go_wp2_with (go_at_call 34; (with_reducible refine ht.mono ?_); rintro e w1 ⟨rfl, rfl⟩)
  go_ret
  exact ⟨rfl, rfl⟩

theorem word_none (i : Nat) : wordF (fun _ => false) i = 0 := by
  apply Nat.eq_of_testBit_eq
  intro j
  rw [word_bit]; simp
theorem stCells_none (n : Int) : stCells n (fun _ => false) = #[.int .i64 n, .int .u64 0, .int .u64 0, .int .u64 0, .int .u64 0, .int .u64 0, .int .u64 0, .int .u64 0, .int .u64 0] := by
  simp [stCells, word_none]

theorem zero8 {w : World} {p : Nat} {T : TypeId} {x0 x1 x2 x3 x4 x5 x6 x7 x8 : Value} (h : w.heap[p]? = some (.cells #[x0, x1, x2, x3, x4, x5, x6, x7, x8] T (0, 0))) :
    ((((((((w.setCell ⟨p, 1, none⟩ (.int .u64 0)).setCell ⟨p, 2, none⟩ (.int .u64 0)).setCell ⟨p, 3, none⟩ (.int .u64 0)).setCell ⟨p, 4, none⟩ (.int .u64 0)).setCell ⟨p, 5, none⟩ (.int .u64 0)).setCell ⟨p, 6, none⟩ (.int .u64 0)).setCell ⟨p, 7, none⟩ (.int .u64 0)).setCell ⟨p, 8, none⟩ (.int .u64 0)).heap[p]? = some (.cells #[x0, .int .u64 0, .int .u64 0, .int .u64 0, .int .u64 0, .int .u64 0, .int .u64 0, .int .u64 0, .int .u64 0] T (0, 0)) := by
  have b1 := blk_set h 1 (.int .u64 0)
  simp only [List.setIfInBounds_toArray, List.set_cons_zero, List.set_cons_succ] at b1
  have b2 := blk_set b1 2 (.int .u64 0)
  simp only [List.setIfInBounds_toArray, List.set_cons_zero, List.set_cons_succ] at b2
  have b3 := blk_set b2 3 (.int .u64 0)
  simp only [List.setIfInBounds_toArray, List.set_cons_zero, List.set_cons_succ] at b3
  have b4 := blk_set b3 4 (.int .u64 0)
  simp only [List.setIfInBounds_toArray, List.set_cons_zero, List.set_cons_succ] at b4
  have b5 := blk_set b4 5 (.int .u64 0)
  simp only [List.setIfInBounds_toArray, List.set_cons_zero, List.set_cons_succ] at b5
  have b6 := blk_set b5 6 (.int .u64 0)
  simp only [List.setIfInBounds_toArray, List.set_cons_zero, List.set_cons_succ] at b6
  have b7 := blk_set b6 7 (.int .u64 0)
  simp only [List.setIfInBounds_toArray, List.set_cons_zero, List.set_cons_succ] at b7
  have b8 := blk_set b7 8 (.int .u64 0)
  simp only [List.setIfInBounds_toArray, List.set_cons_zero, List.set_cons_succ] at b8
  exact b8

set_option maxRecDepth 100000 in
set_option maxHeartbeats 1000000 in
theorem clearAll_any (p : Nat) (n : Int) (f : Nat → Bool) (w : World) (h : StAt w p n f) : Calls Tryd.prog 23 #[.pointer (some ⟨p, 0, none⟩)] w fun e w' => e = .returned (.tuple #[]) ∧ (StAt w' p n (fun _ => false) ∧ Upd [p] w w') := by
  unfold StAt stCells at h
  have k0 := cell_of_row h 0 _ rfl
  have k1 := cell_of_row h 1 _ rfl
  have k2 := cell_of_row h 2 _ rfl
  have k3 := cell_of_row h 3 _ rfl
  have k4 := cell_of_row h 4 _ rfl
  have k5 := cell_of_row h 5 _ rfl
  have k6 := cell_of_row h 6 _ rfl
  have k7 := cell_of_row h 7 _ rfl
  have k8 := cell_of_row h 8 _ rfl
  have kf : ∀ i, w.frozen? ⟨p, i, none⟩ = false := fun i => by simp [World.frozen?, h]
  have HB := Lib.hid h
  clear h
  go_enter Tryd.func23, Tryd.ntmps23
  go_wp2_with fail
  go_end0
  refine ⟨rfl, ?_, ?_⟩
  · unfold StAt; rw [stCells_none]; exact zero8 HB.out
  · (repeat (first | with_reducible exact Upd.refl _ _ | with_reducible refine Upd.setCell ?_ (by simp) _ | with_reducible refine Upd.alloc ?_ _ | with_reducible refine Upd.drew ?_))

set_option maxRecDepth 100000 in
set_option maxHeartbeats 1000000 in
theorem copy_any (p : Nat) (n : Int) (f : Nat → Bool) (w : World) (h : StAt w p n f) : Calls Tryd.prog 22 #[.pointer (some ⟨p, 0, none⟩)] w fun e w' => e = .returned (.pointer (some ⟨w.heap.size, 0, none⟩)) ∧ (StAt w' w.heap.size n f ∧ Gr w w') := by
  unfold StAt stCells at h
  have k0 := cell_of_row h 0 _ rfl
  have k1 := cell_of_row h 1 _ rfl
  have k2 := cell_of_row h 2 _ rfl
  have k3 := cell_of_row h 3 _ rfl
  have k4 := cell_of_row h 4 _ rfl
  have k5 := cell_of_row h 5 _ rfl
  have k6 := cell_of_row h 6 _ rfl
  have k7 := cell_of_row h 7 _ rfl
  have k8 := cell_of_row h 8 _ rfl
  clear h
  go_enter Tryd.func22, Tryd.ntmps22
  go_wp2_with fail
  go_ret
  exact ⟨rfl, heap_alloc_new _ _, by (repeat (first | with_reducible exact Gr.refl _ | with_reducible assumption | with_reducible refine Gr.setCell ?_ (by simp; try omega) _ | with_reducible refine Gr.alloc ?_ _ | with_reducible refine Gr.drew ?_ | with_reducible refine Gr.drewN ?_ _ | with_reducible refine Gr.trans ?_ (by assumption)))⟩
end Go.Proofs.YtjdmobildcgidaaDoor
