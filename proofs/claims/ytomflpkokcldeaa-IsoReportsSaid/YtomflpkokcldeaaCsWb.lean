/-
  What the document's tables of the sets of characters compute, function by function.
-/
import Derived.Test.YtomflpkokcldeaaCsWa
import Derived.Test.YtomflpkokcldeaaCsRef
namespace Go.Proofs.Ytomflpkokcldeaa
set_option linter.unusedSimpArgs false
set_option linter.unusedVariables false
open Go.RowKit

def specV : Array Value := (specL.map (Value.int .i64)).toArray
def zeroI (n : Nat) : Array Value := Array.replicate n (Value.int .i64 0)
theorem specV_at (i : Nat) (h : i < 32) : specV[i]? = some (.int .i64 (specL.getD i 0)) := by
  unfold specV
  have hl : specL.length = 32 := rfl
  simp [List.getElem?_eq_getElem (show i < specL.length by omega)]
theorem specV_built : Try.prog.built 93 ((specL.zipIdx 0).map fun x => (x.2, Value.int .i64 x.1)) = some specV := by kernel_rfl

set_option maxRecDepth 100000 in
set_option maxHeartbeats 1000000 in
theorem special_any (c : Int) (w : World) (h0 : 33 ≤ c) (h1 : c < 127) :
    Calls Try.prog 45 #[.int .i64 c] w fun e w' => e = .returned (.int .i64 (rspec c)) ∧ Gr w w' := by
  by_cases h : c < 95
  · go_enter Try.func45, Try.ntmps45
    go_wp2
    go_ret
    exact ⟨by simp [rspec, h], Below.refl _ _⟩
  · have hv := specV_at (c - 95).toNat (by omega)
    go_enter Try.func45, Try.ntmps45
    go_wp2_with (first
      | (refine wpList_build_to rfl 93 _ rfl specV (by kernel_rfl) ?_)
      | (refine wpList_store_abs rfl 93 _ _ rfl w.heap.size specV rfl rfl 93 _ (heap_alloc_new _ _) (by kernel_rfl) (by kernel_rfl) (by kernel_rfl) ?_; intro w1 hh hb hs; have hcell := cell_of_row hh (c - 95).toNat _ hv))
    go_ret
    exact ⟨by rw [rspec, if_neg (by omega)]; rfl, ((Below.refl _ _).alloc (Nat.le_refl _) _).trans hb⟩

def techV : Array Value := (techL.map (Value.int .i64)).toArray
theorem techV_at (i : Nat) (h : i < 94) : techV[i]? = some (.int .i64 (techL.getD i 0)) := by
  unfold techV
  have hl : techL.length = 94 := rfl
  simp [List.getElem?_eq_getElem (show i < techL.length by omega)]

set_option maxRecDepth 100000 in
set_option maxHeartbeats 1000000 in
theorem technical_any (c : Int) (w : World) (h0 : 33 ≤ c) (h1 : c < 127) :
    Calls Try.prog 46 #[.int .i64 c] w fun e w' => e = .returned (.int .i64 (techL.getD (c - 33).toNat 0)) ∧ Gr w w' := by
  have hv := techV_at (c - 33).toNat (by omega)
  have hz : ∀ w, (zeroValue 94).run Try.prog w = .ok (.agg (zeroI 94)) w := fun _ => by kernel_rfl
  go_enter Try.func46, Try.ntmps46
  go_wp2_with (first
    | (refine wpList_build_to rfl 94 _ rfl techV (by kernel_rfl) ?_)
    | (refine wpList_store_abs rfl 94 _ _ rfl w.heap.size techV rfl rfl 94 _ (heap_alloc_new _ _) (by kernel_rfl) (by kernel_rfl) (by kernel_rfl) ?_; intro w1 hh hb hs; have hcell := cell_of_row hh (c - 33).toNat _ hv))
  go_ret
  exact ⟨rfl, ((Below.refl _ _).alloc (Nat.le_refl _) _).trans hb⟩

set_option maxHeartbeats 1000000 in
theorem rsuppl_any (c : Int) (w : World) (h0 : 0 ≤ c) (h1 : c < 128) :
    Calls Try.prog 47 #[.int .i64 c] w fun e w' => e = .returned (.int .i64 (rsuppl c)) ∧ w = w' := by
  go_enter Try.func47, Try.ntmps47
  go_wp2
  all_goals (go_ret; refine ⟨?_, rfl⟩; simp_all [rsuppl])

set_option maxRecDepth 100000 in
set_option maxHeartbeats 2000000 in
theorem nation_6 (c : Int) (w : World) :
    Calls Try.prog 48 #[.int .i64 6, .int .i64 c] w fun e w' => e = .returned (.int .i64 (nation 6 c)) ∧ w = w' := by
  go_enter Try.func48, Try.ntmps48
  go_wp2
  all_goals (go_ret; go_light; refine ⟨?_, rfl⟩; simp_all [nation])

set_option maxRecDepth 100000 in
set_option maxHeartbeats 2000000 in
theorem nation_7 (c : Int) (w : World) :
    Calls Try.prog 48 #[.int .i64 7, .int .i64 c] w fun e w' => e = .returned (.int .i64 (nation 7 c)) ∧ w = w' := by
  go_enter Try.func48, Try.ntmps48
  go_wp2
  all_goals (go_ret; go_light; refine ⟨?_, rfl⟩; simp_all [nation])

set_option maxRecDepth 100000 in
set_option maxHeartbeats 2000000 in
theorem nation_8 (c : Int) (w : World) :
    Calls Try.prog 48 #[.int .i64 8, .int .i64 c] w fun e w' => e = .returned (.int .i64 (nation 8 c)) ∧ w = w' := by
  go_enter Try.func48, Try.ntmps48
  go_wp2
  all_goals (go_ret; go_light; refine ⟨?_, rfl⟩; simp_all [nation])

set_option maxRecDepth 100000 in
set_option maxHeartbeats 2000000 in
theorem nation_9 (c : Int) (w : World) :
    Calls Try.prog 48 #[.int .i64 9, .int .i64 c] w fun e w' => e = .returned (.int .i64 (nation 9 c)) ∧ w = w' := by
  go_enter Try.func48, Try.ntmps48
  go_wp2
  all_goals (go_ret; go_light; refine ⟨?_, rfl⟩; simp_all [nation])

set_option maxRecDepth 100000 in
set_option maxHeartbeats 2000000 in
theorem nation_10 (c : Int) (w : World) :
    Calls Try.prog 48 #[.int .i64 10, .int .i64 c] w fun e w' => e = .returned (.int .i64 (nation 10 c)) ∧ w = w' := by
  go_enter Try.func48, Try.ntmps48
  go_wp2
  all_goals (go_ret; go_light; refine ⟨?_, rfl⟩; simp_all [nation])

set_option maxRecDepth 100000 in
set_option maxHeartbeats 2000000 in
theorem nation_11 (c : Int) (w : World) :
    Calls Try.prog 48 #[.int .i64 11, .int .i64 c] w fun e w' => e = .returned (.int .i64 (nation 11 c)) ∧ w = w' := by
  go_enter Try.func48, Try.ntmps48
  go_wp2
  all_goals (go_ret; go_light; refine ⟨?_, rfl⟩; simp_all [nation])

set_option maxRecDepth 100000 in
set_option maxHeartbeats 2000000 in
theorem nation_12 (c : Int) (w : World) :
    Calls Try.prog 48 #[.int .i64 12, .int .i64 c] w fun e w' => e = .returned (.int .i64 (nation 12 c)) ∧ w = w' := by
  go_enter Try.func48, Try.ntmps48
  go_wp2
  all_goals (go_ret; go_light; refine ⟨?_, rfl⟩; simp_all [nation])

set_option maxRecDepth 100000 in
set_option maxHeartbeats 2000000 in
theorem nation_13 (c : Int) (w : World) :
    Calls Try.prog 48 #[.int .i64 13, .int .i64 c] w fun e w' => e = .returned (.int .i64 (nation 13 c)) ∧ w = w' := by
  go_enter Try.func48, Try.ntmps48
  go_wp2
  all_goals (go_ret; go_light; refine ⟨?_, rfl⟩; simp_all [nation])

set_option maxRecDepth 100000 in
set_option maxHeartbeats 2000000 in
theorem nation_14 (c : Int) (w : World) :
    Calls Try.prog 48 #[.int .i64 14, .int .i64 c] w fun e w' => e = .returned (.int .i64 (nation 14 c)) ∧ w = w' := by
  go_enter Try.func48, Try.ntmps48
  go_wp2
  all_goals (go_ret; go_light; refine ⟨?_, rfl⟩; simp_all [nation])

set_option maxRecDepth 100000 in
set_option maxHeartbeats 2000000 in
theorem nation_15 (c : Int) (w : World) :
    Calls Try.prog 48 #[.int .i64 15, .int .i64 c] w fun e w' => e = .returned (.int .i64 (nation 15 c)) ∧ w = w' := by
  go_enter Try.func48, Try.ntmps48
  go_wp2
  all_goals (go_ret; go_light; refine ⟨?_, rfl⟩; simp_all [nation])

set_option maxRecDepth 100000 in
set_option maxHeartbeats 2000000 in
theorem nation_16 (c : Int) (w : World) :
    Calls Try.prog 48 #[.int .i64 16, .int .i64 c] w fun e w' => e = .returned (.int .i64 (nation 16 c)) ∧ w = w' := by
  go_enter Try.func48, Try.ntmps48
  go_wp2
  all_goals (go_ret; go_light; refine ⟨?_, rfl⟩; simp_all [nation])

set_option maxRecDepth 100000 in
set_option maxHeartbeats 2000000 in
theorem nation_17 (c : Int) (w : World) :
    Calls Try.prog 48 #[.int .i64 17, .int .i64 c] w fun e w' => e = .returned (.int .i64 (nation 17 c)) ∧ w = w' := by
  go_enter Try.func48, Try.ntmps48
  go_wp2
  all_goals (go_ret; go_light; refine ⟨?_, rfl⟩; simp_all [nation])

set_option maxRecDepth 100000 in
set_option maxHeartbeats 2000000 in
theorem nation_other (n c : Int) (w : World) (h : between 6 17 n = false) :
    Calls Try.prog 48 #[.int .i64 n, .int .i64 c] w fun e w' => e = .returned (.int .i64 (nation n c)) ∧ w = w' := by
  have hn : ¬ n = 6 ∧ ¬ n = 7 ∧ ¬ n = 8 ∧ ¬ n = 9 ∧ ¬ n = 10 ∧ ¬ n = 11 ∧ ¬ n = 12 ∧ ¬ n = 13 ∧ ¬ n = 14 ∧ ¬ n = 15 ∧ ¬ n = 16 ∧ ¬ n = 17 := by
    simp only [between, Bool.and_eq_false_iff, decide_eq_false_iff_not] at h; omega
  obtain ⟨a1, a2, a3, a4, a5, a6, a7, a8, a9, a10, a11, a12⟩ := hn
  go_enter Try.func48, Try.ntmps48
  go_wp2
  all_goals (go_ret; go_light; refine ⟨?_, rfl⟩; simp_all [nation])

theorem nation_any (n c : Int) (w : World) :
    Calls Try.prog 48 #[.int .i64 n, .int .i64 c] w fun e w' => e = .returned (.int .i64 (nation n c)) ∧ w = w' := by
  cases h : between 6 17 n with
  | false => exact nation_other n c w h
  | true =>
    simp only [between, Bool.and_eq_true, decide_eq_true_eq] at h
    have : n = 6 ∨ n = 7 ∨ n = 8 ∨ n = 9 ∨ n = 10 ∨ n = 11 ∨ n = 12 ∨ n = 13 ∨ n = 14 ∨ n = 15 ∨ n = 16 ∨ n = 17 := by omega
    rcases this with rfl | rfl | rfl | rfl | rfl | rfl | rfl | rfl | rfl | rfl | rfl | rfl
    · exact nation_6 c w
    · exact nation_7 c w
    · exact nation_8 c w
    · exact nation_9 c w
    · exact nation_10 c w
    · exact nation_11 c w
    · exact nation_12 c w
    · exact nation_13 c w
    · exact nation_14 c w
    · exact nation_15 c w
    · exact nation_16 c w
    · exact nation_17 c w

end Go.Proofs.Ytomflpkokcldeaa
