/-
  What the document's looking up of a code computes, case by case.
-/
import Derived.Test.YtomflpkokcldeaaIsC
namespace Go.Proofs.Ytomflpkokcldeaa
set_option linter.unusedSimpArgs false
set_option linter.unusedVariables false
open Go.RowKit

set_option maxRecDepth 100000 in
set_option maxHeartbeats 1000000 in
theorem rmap_ctrl (g0 g1 g2 g3 gl gr si c : Int) (w : World) (h0 : 0 ≤ c) (h1 : c < 256) (hc : c < 32 ∨ (128 ≤ c ∧ c < 160)) :
    Calls Try.prog 11 #[.agg #[.int .i64 g0, .int .i64 g1, .int .i64 g2, .int .i64 g3, .int .i64 gl, .int .i64 gr, .int .i64 si], .int .u8 c] w fun e w' => e = .returned (.tuple #[.int .i32 0, .agg #[.int .i64 g0, .int .i64 g1, .int .i64 g2, .int .i64 g3, .int .i64 gl, .int .i64 gr, .int .i64 si]]) ∧ Gr w w' := by
  rcases hc with hc | ⟨hc, hc2⟩
  all_goals
    go_enter Try.func11, Try.ntmps11
    go_wp2
    go_region
    go_wp2
    exact bodyPost_ret (v := .tuple #[.int .i32 0, .agg #[.int .i64 g0, .int .i64 g1, .int .i64 g2, .int .i64 g3, .int .i64 gl, .int .i64 gr, .int .i64 si]]) (by simp [results, Try.results11, go_sem]) rfl ⟨rfl, by (repeat (first | with_reducible (refine Gr.setCell ?_ ?hp _; case hp => (simp; try omega)) | with_reducible refine Gr.alloc ?_ _ | with_reducible refine Gr.drew ?_ | with_reducible refine Gr.drewN ?_ _ | with_reducible assumption | with_reducible exact Gr.refl _ | with_reducible refine Gr.trans ?_ (by assumption)))⟩

set_option maxRecDepth 100000 in
set_option maxHeartbeats 1000000 in
theorem rmap_Ls2 (g0 g1 g2 g3 gl gr c : Int) (w : World) (hc : 32 ≤ c) (hc1 : c < 128) :
    Calls Try.prog 11 #[.agg #[.int .i64 g0, .int .i64 g1, .int .i64 g2, .int .i64 g3, .int .i64 gl, .int .i64 gr, .int .i64 2], .int .u8 c] w fun e w' => e = .returned (.tuple #[.int .i32 (Gl g2 c), .agg #[.int .i64 g0, .int .i64 g1, .int .i64 g2, .int .i64 g3, .int .i64 gl, .int .i64 gr, .int .i64 0]]) ∧ Gr w w' := by
  have hm : c % 128 = c := by omega
  go_enter Try.func11, Try.ntmps11
  go_wp2_with (first
    | (go_at_call 21; refine (usedU _ _ _ _ _ _ _ _).mono ?_; rintro e w1 ⟨rfl, hb1⟩; have k1 := hb1.blk (heap_alloc2_old _ _ _); have k2 := hb1.blk (heap_alloc2_new _ _ _); have q1 := cells7 k1; have q2 := cells7 k2))
  have k3 := blk_set k1 6 (.int .i64 0)
  have k4 := blk_far k2 (p := ⟨w.heap.size, 6, none⟩) (by simp) (.int .i64 0)
  have hb3 : Gr w (w1.setCell ⟨w.heap.size, 6, none⟩ (.int .i64 0)) := by (repeat (first | with_reducible (refine Gr.setCell ?_ ?hp _; case hp => (simp; try omega)) | with_reducible refine Gr.alloc ?_ _ | with_reducible refine Gr.drew ?_ | with_reducible refine Gr.drewN ?_ _ | with_reducible assumption | with_reducible exact Gr.refl _ | with_reducible refine Gr.trans ?_ (by assumption)))
  obtain ⟨W, hW⟩ : ∃ W, W = w1.setCell ⟨w.heap.size, 6, none⟩ (.int .i64 0) := ⟨_, rfl⟩
  rw [← hW] at k3 k4 hb3 ⊢
  clear hW k1 k2 q1 q2 hb1
  have k3' : W.heap[w.heap.size]? = some (.cells #[.int .i64 g0, .int .i64 g1, .int .i64 g2, .int .i64 g3, .int .i64 gl, .int .i64 gr, .int .i64 0] 24 (0, 0)) := k3
  clear k3
  have q3 := cells7 k3'
  have q4 := cells7 k4
  go_region_with ((go_at_call 29; refine (rglyphG _ _ _ (by omega) (by omega)).mono ?_; rintro e w2 ⟨rfl, hb2⟩; have k5 := hb2.blk k3'; have k6 := hb2.blk k4; have q5 := cells7 k5; have q6 := cells7 k6))
  all_goals (go_wp2; refine bodyPost_ret (v := .tuple #[.int .i32 (Gl g2 c), .agg #[.int .i64 g0, .int .i64 g1, .int .i64 g2, .int .i64 g3, .int .i64 gl, .int .i64 gr, .int .i64 0]]) (by simp [results, Try.results11, go_sem, *]) rfl ⟨rfl, by (repeat (first | with_reducible (refine Gr.setCell ?_ ?hp _; case hp => (simp; try omega)) | with_reducible refine Gr.alloc ?_ _ | with_reducible refine Gr.drew ?_ | with_reducible refine Gr.drewN ?_ _ | with_reducible assumption | with_reducible exact Gr.refl _ | with_reducible refine Gr.trans ?_ (by assumption)))⟩)

set_option maxRecDepth 100000 in
set_option maxHeartbeats 1000000 in
theorem rmap_Ls3 (g0 g1 g2 g3 gl gr c : Int) (w : World) (hc : 32 ≤ c) (hc1 : c < 128) :
    Calls Try.prog 11 #[.agg #[.int .i64 g0, .int .i64 g1, .int .i64 g2, .int .i64 g3, .int .i64 gl, .int .i64 gr, .int .i64 3], .int .u8 c] w fun e w' => e = .returned (.tuple #[.int .i32 (Gl g3 c), .agg #[.int .i64 g0, .int .i64 g1, .int .i64 g2, .int .i64 g3, .int .i64 gl, .int .i64 gr, .int .i64 0]]) ∧ Gr w w' := by
  have hm : c % 128 = c := by omega
  go_enter Try.func11, Try.ntmps11
  go_wp2_with (first
    | (go_at_call 21; refine (usedU _ _ _ _ _ _ _ _).mono ?_; rintro e w1 ⟨rfl, hb1⟩; have k1 := hb1.blk (heap_alloc2_old _ _ _); have k2 := hb1.blk (heap_alloc2_new _ _ _); have q1 := cells7 k1; have q2 := cells7 k2))
  have k3 := blk_set k1 6 (.int .i64 0)
  have k4 := blk_far k2 (p := ⟨w.heap.size, 6, none⟩) (by simp) (.int .i64 0)
  have hb3 : Gr w (w1.setCell ⟨w.heap.size, 6, none⟩ (.int .i64 0)) := by (repeat (first | with_reducible (refine Gr.setCell ?_ ?hp _; case hp => (simp; try omega)) | with_reducible refine Gr.alloc ?_ _ | with_reducible refine Gr.drew ?_ | with_reducible refine Gr.drewN ?_ _ | with_reducible assumption | with_reducible exact Gr.refl _ | with_reducible refine Gr.trans ?_ (by assumption)))
  obtain ⟨W, hW⟩ : ∃ W, W = w1.setCell ⟨w.heap.size, 6, none⟩ (.int .i64 0) := ⟨_, rfl⟩
  rw [← hW] at k3 k4 hb3 ⊢
  clear hW k1 k2 q1 q2 hb1
  have k3' : W.heap[w.heap.size]? = some (.cells #[.int .i64 g0, .int .i64 g1, .int .i64 g2, .int .i64 g3, .int .i64 gl, .int .i64 gr, .int .i64 0] 24 (0, 0)) := k3
  clear k3
  have q3 := cells7 k3'
  have q4 := cells7 k4
  go_region_with ((go_at_call 29; refine (rglyphG _ _ _ (by omega) (by omega)).mono ?_; rintro e w2 ⟨rfl, hb2⟩; have k5 := hb2.blk k3'; have k6 := hb2.blk k4; have q5 := cells7 k5; have q6 := cells7 k6))
  all_goals (go_wp2; refine bodyPost_ret (v := .tuple #[.int .i32 (Gl g3 c), .agg #[.int .i64 g0, .int .i64 g1, .int .i64 g2, .int .i64 g3, .int .i64 gl, .int .i64 gr, .int .i64 0]]) (by simp [results, Try.results11, go_sem, *]) rfl ⟨rfl, by (repeat (first | with_reducible (refine Gr.setCell ?_ ?hp _; case hp => (simp; try omega)) | with_reducible refine Gr.alloc ?_ _ | with_reducible refine Gr.drew ?_ | with_reducible refine Gr.drewN ?_ _ | with_reducible assumption | with_reducible exact Gr.refl _ | with_reducible refine Gr.trans ?_ (by assumption)))⟩)

set_option maxRecDepth 100000 in
set_option maxHeartbeats 1000000 in
theorem rmap_Lu0 (g0 g1 g2 g3 gl gr si c : Int) (w : World) (hc : 32 ≤ c) (hc1 : c < 128) (hs : si < 2 ∨ 3 < si) (hu : uL gl = 0) :
    Calls Try.prog 11 #[.agg #[.int .i64 g0, .int .i64 g1, .int .i64 g2, .int .i64 g3, .int .i64 gl, .int .i64 gr, .int .i64 si], .int .u8 c] w fun e w' => e = .returned (.tuple #[.int .i32 (Gl g0 c), .agg #[.int .i64 g0, .int .i64 g1, .int .i64 g2, .int .i64 g3, .int .i64 gl, .int .i64 gr, .int .i64 0]]) ∧ Gr w w' := by
  have hm : c % 128 = c := by omega
  have e2 : (si == 2) = false := by simp; omega
  have e3 : (si == 3) = false := by simp; omega
  clear hs
  go_enter Try.func11, Try.ntmps11
  go_wp2_with (first
    | (go_at_call 21; refine (usedU _ _ _ _ _ _ _ _).mono ?_; rintro e w1 ⟨rfl, hb1⟩; have k1 := hb1.blk (heap_alloc2_old _ _ _); have k2 := hb1.blk (heap_alloc2_new _ _ _); have q1 := cells7 k1; have q2 := cells7 k2))
  have k3 := blk_set k1 6 (.int .i64 0)
  have k4 := blk_far k2 (p := ⟨w.heap.size, 6, none⟩) (by simp) (.int .i64 0)
  have hb3 : Gr w (w1.setCell ⟨w.heap.size, 6, none⟩ (.int .i64 0)) := by (repeat (first | with_reducible (refine Gr.setCell ?_ ?hp _; case hp => (simp; try omega)) | with_reducible refine Gr.alloc ?_ _ | with_reducible refine Gr.drew ?_ | with_reducible refine Gr.drewN ?_ _ | with_reducible assumption | with_reducible exact Gr.refl _ | with_reducible refine Gr.trans ?_ (by assumption)))
  obtain ⟨W, hW⟩ : ∃ W, W = w1.setCell ⟨w.heap.size, 6, none⟩ (.int .i64 0) := ⟨_, rfl⟩
  rw [← hW] at k3 k4 hb3 ⊢
  clear hW k1 k2 q1 q2 hb1
  have k3' : W.heap[w.heap.size]? = some (.cells #[.int .i64 g0, .int .i64 g1, .int .i64 g2, .int .i64 g3, .int .i64 gl, .int .i64 gr, .int .i64 0] 24 (0, 0)) := k3
  clear k3
  have q3 := cells7 k3'
  have q4 := cells7 k4
  go_region_with ((go_at_call 29; refine (rglyphG _ _ _ (by omega) (by omega)).mono ?_; rintro e w2 ⟨rfl, hb2⟩; have k5 := hb2.blk k3'; have k6 := hb2.blk k4; have q5 := cells7 k5; have q6 := cells7 k6))
  all_goals (go_wp2; refine bodyPost_ret (v := .tuple #[.int .i32 (Gl g0 c), .agg #[.int .i64 g0, .int .i64 g1, .int .i64 g2, .int .i64 g3, .int .i64 gl, .int .i64 gr, .int .i64 0]]) (by simp [results, Try.results11, go_sem, *]) rfl ⟨rfl, by (repeat (first | with_reducible (refine Gr.setCell ?_ ?hp _; case hp => (simp; try omega)) | with_reducible refine Gr.alloc ?_ _ | with_reducible refine Gr.drew ?_ | with_reducible refine Gr.drewN ?_ _ | with_reducible assumption | with_reducible exact Gr.refl _ | with_reducible refine Gr.trans ?_ (by assumption)))⟩)

set_option maxRecDepth 100000 in
set_option maxHeartbeats 1000000 in
theorem rmap_Lu1 (g0 g1 g2 g3 gl gr si c : Int) (w : World) (hc : 32 ≤ c) (hc1 : c < 128) (hs : si < 2 ∨ 3 < si) (hu : uL gl = 1) :
    Calls Try.prog 11 #[.agg #[.int .i64 g0, .int .i64 g1, .int .i64 g2, .int .i64 g3, .int .i64 gl, .int .i64 gr, .int .i64 si], .int .u8 c] w fun e w' => e = .returned (.tuple #[.int .i32 (Gl g1 c), .agg #[.int .i64 g0, .int .i64 g1, .int .i64 g2, .int .i64 g3, .int .i64 gl, .int .i64 gr, .int .i64 0]]) ∧ Gr w w' := by
  have hm : c % 128 = c := by omega
  have e2 : (si == 2) = false := by simp; omega
  have e3 : (si == 3) = false := by simp; omega
  clear hs
  go_enter Try.func11, Try.ntmps11
  go_wp2_with (first
    | (go_at_call 21; refine (usedU _ _ _ _ _ _ _ _).mono ?_; rintro e w1 ⟨rfl, hb1⟩; have k1 := hb1.blk (heap_alloc2_old _ _ _); have k2 := hb1.blk (heap_alloc2_new _ _ _); have q1 := cells7 k1; have q2 := cells7 k2))
  have k3 := blk_set k1 6 (.int .i64 0)
  have k4 := blk_far k2 (p := ⟨w.heap.size, 6, none⟩) (by simp) (.int .i64 0)
  have hb3 : Gr w (w1.setCell ⟨w.heap.size, 6, none⟩ (.int .i64 0)) := by (repeat (first | with_reducible (refine Gr.setCell ?_ ?hp _; case hp => (simp; try omega)) | with_reducible refine Gr.alloc ?_ _ | with_reducible refine Gr.drew ?_ | with_reducible refine Gr.drewN ?_ _ | with_reducible assumption | with_reducible exact Gr.refl _ | with_reducible refine Gr.trans ?_ (by assumption)))
  obtain ⟨W, hW⟩ : ∃ W, W = w1.setCell ⟨w.heap.size, 6, none⟩ (.int .i64 0) := ⟨_, rfl⟩
  rw [← hW] at k3 k4 hb3 ⊢
  clear hW k1 k2 q1 q2 hb1
  have k3' : W.heap[w.heap.size]? = some (.cells #[.int .i64 g0, .int .i64 g1, .int .i64 g2, .int .i64 g3, .int .i64 gl, .int .i64 gr, .int .i64 0] 24 (0, 0)) := k3
  clear k3
  have q3 := cells7 k3'
  have q4 := cells7 k4
  go_region_with ((go_at_call 29; refine (rglyphG _ _ _ (by omega) (by omega)).mono ?_; rintro e w2 ⟨rfl, hb2⟩; have k5 := hb2.blk k3'; have k6 := hb2.blk k4; have q5 := cells7 k5; have q6 := cells7 k6))
  all_goals (go_wp2; refine bodyPost_ret (v := .tuple #[.int .i32 (Gl g1 c), .agg #[.int .i64 g0, .int .i64 g1, .int .i64 g2, .int .i64 g3, .int .i64 gl, .int .i64 gr, .int .i64 0]]) (by simp [results, Try.results11, go_sem, *]) rfl ⟨rfl, by (repeat (first | with_reducible (refine Gr.setCell ?_ ?hp _; case hp => (simp; try omega)) | with_reducible refine Gr.alloc ?_ _ | with_reducible refine Gr.drew ?_ | with_reducible refine Gr.drewN ?_ _ | with_reducible assumption | with_reducible exact Gr.refl _ | with_reducible refine Gr.trans ?_ (by assumption)))⟩)

set_option maxRecDepth 100000 in
set_option maxHeartbeats 1000000 in
theorem rmap_Lu2 (g0 g1 g2 g3 gl gr si c : Int) (w : World) (hc : 32 ≤ c) (hc1 : c < 128) (hs : si < 2 ∨ 3 < si) (hu : uL gl = 2) :
    Calls Try.prog 11 #[.agg #[.int .i64 g0, .int .i64 g1, .int .i64 g2, .int .i64 g3, .int .i64 gl, .int .i64 gr, .int .i64 si], .int .u8 c] w fun e w' => e = .returned (.tuple #[.int .i32 (Gl g2 c), .agg #[.int .i64 g0, .int .i64 g1, .int .i64 g2, .int .i64 g3, .int .i64 gl, .int .i64 gr, .int .i64 0]]) ∧ Gr w w' := by
  have hm : c % 128 = c := by omega
  have e2 : (si == 2) = false := by simp; omega
  have e3 : (si == 3) = false := by simp; omega
  clear hs
  go_enter Try.func11, Try.ntmps11
  go_wp2_with (first
    | (go_at_call 21; refine (usedU _ _ _ _ _ _ _ _).mono ?_; rintro e w1 ⟨rfl, hb1⟩; have k1 := hb1.blk (heap_alloc2_old _ _ _); have k2 := hb1.blk (heap_alloc2_new _ _ _); have q1 := cells7 k1; have q2 := cells7 k2))
  have k3 := blk_set k1 6 (.int .i64 0)
  have k4 := blk_far k2 (p := ⟨w.heap.size, 6, none⟩) (by simp) (.int .i64 0)
  have hb3 : Gr w (w1.setCell ⟨w.heap.size, 6, none⟩ (.int .i64 0)) := by (repeat (first | with_reducible (refine Gr.setCell ?_ ?hp _; case hp => (simp; try omega)) | with_reducible refine Gr.alloc ?_ _ | with_reducible refine Gr.drew ?_ | with_reducible refine Gr.drewN ?_ _ | with_reducible assumption | with_reducible exact Gr.refl _ | with_reducible refine Gr.trans ?_ (by assumption)))
  obtain ⟨W, hW⟩ : ∃ W, W = w1.setCell ⟨w.heap.size, 6, none⟩ (.int .i64 0) := ⟨_, rfl⟩
  rw [← hW] at k3 k4 hb3 ⊢
  clear hW k1 k2 q1 q2 hb1
  have k3' : W.heap[w.heap.size]? = some (.cells #[.int .i64 g0, .int .i64 g1, .int .i64 g2, .int .i64 g3, .int .i64 gl, .int .i64 gr, .int .i64 0] 24 (0, 0)) := k3
  clear k3
  have q3 := cells7 k3'
  have q4 := cells7 k4
  go_region_with ((go_at_call 29; refine (rglyphG _ _ _ (by omega) (by omega)).mono ?_; rintro e w2 ⟨rfl, hb2⟩; have k5 := hb2.blk k3'; have k6 := hb2.blk k4; have q5 := cells7 k5; have q6 := cells7 k6))
  all_goals (go_wp2; refine bodyPost_ret (v := .tuple #[.int .i32 (Gl g2 c), .agg #[.int .i64 g0, .int .i64 g1, .int .i64 g2, .int .i64 g3, .int .i64 gl, .int .i64 gr, .int .i64 0]]) (by simp [results, Try.results11, go_sem, *]) rfl ⟨rfl, by (repeat (first | with_reducible (refine Gr.setCell ?_ ?hp _; case hp => (simp; try omega)) | with_reducible refine Gr.alloc ?_ _ | with_reducible refine Gr.drew ?_ | with_reducible refine Gr.drewN ?_ _ | with_reducible assumption | with_reducible exact Gr.refl _ | with_reducible refine Gr.trans ?_ (by assumption)))⟩)

set_option maxRecDepth 100000 in
set_option maxHeartbeats 1000000 in
theorem rmap_Lu3 (g0 g1 g2 g3 gl gr si c : Int) (w : World) (hc : 32 ≤ c) (hc1 : c < 128) (hs : si < 2 ∨ 3 < si) (hu : uL gl = 3) :
    Calls Try.prog 11 #[.agg #[.int .i64 g0, .int .i64 g1, .int .i64 g2, .int .i64 g3, .int .i64 gl, .int .i64 gr, .int .i64 si], .int .u8 c] w fun e w' => e = .returned (.tuple #[.int .i32 (Gl g3 c), .agg #[.int .i64 g0, .int .i64 g1, .int .i64 g2, .int .i64 g3, .int .i64 gl, .int .i64 gr, .int .i64 0]]) ∧ Gr w w' := by
  have hm : c % 128 = c := by omega
  have e2 : (si == 2) = false := by simp; omega
  have e3 : (si == 3) = false := by simp; omega
  clear hs
  go_enter Try.func11, Try.ntmps11
  go_wp2_with (first
    | (go_at_call 21; refine (usedU _ _ _ _ _ _ _ _).mono ?_; rintro e w1 ⟨rfl, hb1⟩; have k1 := hb1.blk (heap_alloc2_old _ _ _); have k2 := hb1.blk (heap_alloc2_new _ _ _); have q1 := cells7 k1; have q2 := cells7 k2))
  have k3 := blk_set k1 6 (.int .i64 0)
  have k4 := blk_far k2 (p := ⟨w.heap.size, 6, none⟩) (by simp) (.int .i64 0)
  have hb3 : Gr w (w1.setCell ⟨w.heap.size, 6, none⟩ (.int .i64 0)) := by (repeat (first | with_reducible (refine Gr.setCell ?_ ?hp _; case hp => (simp; try omega)) | with_reducible refine Gr.alloc ?_ _ | with_reducible refine Gr.drew ?_ | with_reducible refine Gr.drewN ?_ _ | with_reducible assumption | with_reducible exact Gr.refl _ | with_reducible refine Gr.trans ?_ (by assumption)))
  obtain ⟨W, hW⟩ : ∃ W, W = w1.setCell ⟨w.heap.size, 6, none⟩ (.int .i64 0) := ⟨_, rfl⟩
  rw [← hW] at k3 k4 hb3 ⊢
  clear hW k1 k2 q1 q2 hb1
  have k3' : W.heap[w.heap.size]? = some (.cells #[.int .i64 g0, .int .i64 g1, .int .i64 g2, .int .i64 g3, .int .i64 gl, .int .i64 gr, .int .i64 0] 24 (0, 0)) := k3
  clear k3
  have q3 := cells7 k3'
  have q4 := cells7 k4
  go_region_with ((go_at_call 29; refine (rglyphG _ _ _ (by omega) (by omega)).mono ?_; rintro e w2 ⟨rfl, hb2⟩; have k5 := hb2.blk k3'; have k6 := hb2.blk k4; have q5 := cells7 k5; have q6 := cells7 k6))
  all_goals (go_wp2; refine bodyPost_ret (v := .tuple #[.int .i32 (Gl g3 c), .agg #[.int .i64 g0, .int .i64 g1, .int .i64 g2, .int .i64 g3, .int .i64 gl, .int .i64 gr, .int .i64 0]]) (by simp [results, Try.results11, go_sem, *]) rfl ⟨rfl, by (repeat (first | with_reducible (refine Gr.setCell ?_ ?hp _; case hp => (simp; try omega)) | with_reducible refine Gr.alloc ?_ _ | with_reducible refine Gr.drew ?_ | with_reducible refine Gr.drewN ?_ _ | with_reducible assumption | with_reducible exact Gr.refl _ | with_reducible refine Gr.trans ?_ (by assumption)))⟩)

set_option maxRecDepth 100000 in
set_option maxHeartbeats 1000000 in
theorem rmap_Rs2 (g0 g1 g2 g3 gl gr c : Int) (w : World) (hc : 160 ≤ c) (hc1 : c < 256) :
    Calls Try.prog 11 #[.agg #[.int .i64 g0, .int .i64 g1, .int .i64 g2, .int .i64 g3, .int .i64 gl, .int .i64 gr, .int .i64 2], .int .u8 c] w fun e w' => e = .returned (.tuple #[.int .i32 (Gl g2 (c - 128)), .agg #[.int .i64 g0, .int .i64 g1, .int .i64 g2, .int .i64 g3, .int .i64 gl, .int .i64 gr, .int .i64 0]]) ∧ Gr w w' := by
  have hm : c % 128 = (c - 128) := by omega
  go_enter Try.func11, Try.ntmps11
  go_wp2_with (first
    | (go_at_call 21; refine (usedU _ _ _ _ _ _ _ _).mono ?_; rintro e w1 ⟨rfl, hb1⟩; have k1 := hb1.blk (heap_alloc2_old _ _ _); have k2 := hb1.blk (heap_alloc2_new _ _ _); have q1 := cells7 k1; have q2 := cells7 k2))
  have k3 := blk_set k1 6 (.int .i64 0)
  have k4 := blk_far k2 (p := ⟨w.heap.size, 6, none⟩) (by simp) (.int .i64 0)
  have hb3 : Gr w (w1.setCell ⟨w.heap.size, 6, none⟩ (.int .i64 0)) := by (repeat (first | with_reducible (refine Gr.setCell ?_ ?hp _; case hp => (simp; try omega)) | with_reducible refine Gr.alloc ?_ _ | with_reducible refine Gr.drew ?_ | with_reducible refine Gr.drewN ?_ _ | with_reducible assumption | with_reducible exact Gr.refl _ | with_reducible refine Gr.trans ?_ (by assumption)))
  obtain ⟨W, hW⟩ : ∃ W, W = w1.setCell ⟨w.heap.size, 6, none⟩ (.int .i64 0) := ⟨_, rfl⟩
  rw [← hW] at k3 k4 hb3 ⊢
  clear hW k1 k2 q1 q2 hb1
  have k3' : W.heap[w.heap.size]? = some (.cells #[.int .i64 g0, .int .i64 g1, .int .i64 g2, .int .i64 g3, .int .i64 gl, .int .i64 gr, .int .i64 0] 24 (0, 0)) := k3
  clear k3
  have q3 := cells7 k3'
  have q4 := cells7 k4
  go_region_with ((go_at_call 29; refine (rglyphG _ _ _ (by omega) (by omega)).mono ?_; rintro e w2 ⟨rfl, hb2⟩; have k5 := hb2.blk k3'; have k6 := hb2.blk k4; have q5 := cells7 k5; have q6 := cells7 k6))
  all_goals (go_wp2; refine bodyPost_ret (v := .tuple #[.int .i32 (Gl g2 (c - 128)), .agg #[.int .i64 g0, .int .i64 g1, .int .i64 g2, .int .i64 g3, .int .i64 gl, .int .i64 gr, .int .i64 0]]) (by simp [results, Try.results11, go_sem, *]) rfl ⟨rfl, by (repeat (first | with_reducible (refine Gr.setCell ?_ ?hp _; case hp => (simp; try omega)) | with_reducible refine Gr.alloc ?_ _ | with_reducible refine Gr.drew ?_ | with_reducible refine Gr.drewN ?_ _ | with_reducible assumption | with_reducible exact Gr.refl _ | with_reducible refine Gr.trans ?_ (by assumption)))⟩)

set_option maxRecDepth 100000 in
set_option maxHeartbeats 1000000 in
theorem rmap_Rs3 (g0 g1 g2 g3 gl gr c : Int) (w : World) (hc : 160 ≤ c) (hc1 : c < 256) :
    Calls Try.prog 11 #[.agg #[.int .i64 g0, .int .i64 g1, .int .i64 g2, .int .i64 g3, .int .i64 gl, .int .i64 gr, .int .i64 3], .int .u8 c] w fun e w' => e = .returned (.tuple #[.int .i32 (Gl g3 (c - 128)), .agg #[.int .i64 g0, .int .i64 g1, .int .i64 g2, .int .i64 g3, .int .i64 gl, .int .i64 gr, .int .i64 0]]) ∧ Gr w w' := by
  have hm : c % 128 = (c - 128) := by omega
  go_enter Try.func11, Try.ntmps11
  go_wp2_with (first
    | (go_at_call 21; refine (usedU _ _ _ _ _ _ _ _).mono ?_; rintro e w1 ⟨rfl, hb1⟩; have k1 := hb1.blk (heap_alloc2_old _ _ _); have k2 := hb1.blk (heap_alloc2_new _ _ _); have q1 := cells7 k1; have q2 := cells7 k2))
  have k3 := blk_set k1 6 (.int .i64 0)
  have k4 := blk_far k2 (p := ⟨w.heap.size, 6, none⟩) (by simp) (.int .i64 0)
  have hb3 : Gr w (w1.setCell ⟨w.heap.size, 6, none⟩ (.int .i64 0)) := by (repeat (first | with_reducible (refine Gr.setCell ?_ ?hp _; case hp => (simp; try omega)) | with_reducible refine Gr.alloc ?_ _ | with_reducible refine Gr.drew ?_ | with_reducible refine Gr.drewN ?_ _ | with_reducible assumption | with_reducible exact Gr.refl _ | with_reducible refine Gr.trans ?_ (by assumption)))
  obtain ⟨W, hW⟩ : ∃ W, W = w1.setCell ⟨w.heap.size, 6, none⟩ (.int .i64 0) := ⟨_, rfl⟩
  rw [← hW] at k3 k4 hb3 ⊢
  clear hW k1 k2 q1 q2 hb1
  have k3' : W.heap[w.heap.size]? = some (.cells #[.int .i64 g0, .int .i64 g1, .int .i64 g2, .int .i64 g3, .int .i64 gl, .int .i64 gr, .int .i64 0] 24 (0, 0)) := k3
  clear k3
  have q3 := cells7 k3'
  have q4 := cells7 k4
  go_region_with ((go_at_call 29; refine (rglyphG _ _ _ (by omega) (by omega)).mono ?_; rintro e w2 ⟨rfl, hb2⟩; have k5 := hb2.blk k3'; have k6 := hb2.blk k4; have q5 := cells7 k5; have q6 := cells7 k6))
  all_goals (go_wp2; refine bodyPost_ret (v := .tuple #[.int .i32 (Gl g3 (c - 128)), .agg #[.int .i64 g0, .int .i64 g1, .int .i64 g2, .int .i64 g3, .int .i64 gl, .int .i64 gr, .int .i64 0]]) (by simp [results, Try.results11, go_sem, *]) rfl ⟨rfl, by (repeat (first | with_reducible (refine Gr.setCell ?_ ?hp _; case hp => (simp; try omega)) | with_reducible refine Gr.alloc ?_ _ | with_reducible refine Gr.drew ?_ | with_reducible refine Gr.drewN ?_ _ | with_reducible assumption | with_reducible exact Gr.refl _ | with_reducible refine Gr.trans ?_ (by assumption)))⟩)

set_option maxRecDepth 100000 in
set_option maxHeartbeats 1000000 in
theorem rmap_Ru0 (g0 g1 g2 g3 gl gr si c : Int) (w : World) (hc : 160 ≤ c) (hc1 : c < 256) (hs : si < 2 ∨ 3 < si) (hu : uR gr = 0) :
    Calls Try.prog 11 #[.agg #[.int .i64 g0, .int .i64 g1, .int .i64 g2, .int .i64 g3, .int .i64 gl, .int .i64 gr, .int .i64 si], .int .u8 c] w fun e w' => e = .returned (.tuple #[.int .i32 (Gl g0 (c - 128)), .agg #[.int .i64 g0, .int .i64 g1, .int .i64 g2, .int .i64 g3, .int .i64 gl, .int .i64 gr, .int .i64 0]]) ∧ Gr w w' := by
  have hm : c % 128 = (c - 128) := by omega
  have e2 : (si == 2) = false := by simp; omega
  have e3 : (si == 3) = false := by simp; omega
  clear hs
  go_enter Try.func11, Try.ntmps11
  go_wp2_with (first
    | (go_at_call 21; refine (usedU _ _ _ _ _ _ _ _).mono ?_; rintro e w1 ⟨rfl, hb1⟩; have k1 := hb1.blk (heap_alloc2_old _ _ _); have k2 := hb1.blk (heap_alloc2_new _ _ _); have q1 := cells7 k1; have q2 := cells7 k2))
  have k3 := blk_set k1 6 (.int .i64 0)
  have k4 := blk_far k2 (p := ⟨w.heap.size, 6, none⟩) (by simp) (.int .i64 0)
  have hb3 : Gr w (w1.setCell ⟨w.heap.size, 6, none⟩ (.int .i64 0)) := by (repeat (first | with_reducible (refine Gr.setCell ?_ ?hp _; case hp => (simp; try omega)) | with_reducible refine Gr.alloc ?_ _ | with_reducible refine Gr.drew ?_ | with_reducible refine Gr.drewN ?_ _ | with_reducible assumption | with_reducible exact Gr.refl _ | with_reducible refine Gr.trans ?_ (by assumption)))
  obtain ⟨W, hW⟩ : ∃ W, W = w1.setCell ⟨w.heap.size, 6, none⟩ (.int .i64 0) := ⟨_, rfl⟩
  rw [← hW] at k3 k4 hb3 ⊢
  clear hW k1 k2 q1 q2 hb1
  have k3' : W.heap[w.heap.size]? = some (.cells #[.int .i64 g0, .int .i64 g1, .int .i64 g2, .int .i64 g3, .int .i64 gl, .int .i64 gr, .int .i64 0] 24 (0, 0)) := k3
  clear k3
  have q3 := cells7 k3'
  have q4 := cells7 k4
  go_region_with ((go_at_call 29; refine (rglyphG _ _ _ (by omega) (by omega)).mono ?_; rintro e w2 ⟨rfl, hb2⟩; have k5 := hb2.blk k3'; have k6 := hb2.blk k4; have q5 := cells7 k5; have q6 := cells7 k6))
  all_goals (go_wp2; refine bodyPost_ret (v := .tuple #[.int .i32 (Gl g0 (c - 128)), .agg #[.int .i64 g0, .int .i64 g1, .int .i64 g2, .int .i64 g3, .int .i64 gl, .int .i64 gr, .int .i64 0]]) (by simp [results, Try.results11, go_sem, *]) rfl ⟨rfl, by (repeat (first | with_reducible (refine Gr.setCell ?_ ?hp _; case hp => (simp; try omega)) | with_reducible refine Gr.alloc ?_ _ | with_reducible refine Gr.drew ?_ | with_reducible refine Gr.drewN ?_ _ | with_reducible assumption | with_reducible exact Gr.refl _ | with_reducible refine Gr.trans ?_ (by assumption)))⟩)

set_option maxRecDepth 100000 in
set_option maxHeartbeats 1000000 in
theorem rmap_Ru1 (g0 g1 g2 g3 gl gr si c : Int) (w : World) (hc : 160 ≤ c) (hc1 : c < 256) (hs : si < 2 ∨ 3 < si) (hu : uR gr = 1) :
    Calls Try.prog 11 #[.agg #[.int .i64 g0, .int .i64 g1, .int .i64 g2, .int .i64 g3, .int .i64 gl, .int .i64 gr, .int .i64 si], .int .u8 c] w fun e w' => e = .returned (.tuple #[.int .i32 (Gl g1 (c - 128)), .agg #[.int .i64 g0, .int .i64 g1, .int .i64 g2, .int .i64 g3, .int .i64 gl, .int .i64 gr, .int .i64 0]]) ∧ Gr w w' := by
  have hm : c % 128 = (c - 128) := by omega
  have e2 : (si == 2) = false := by simp; omega
  have e3 : (si == 3) = false := by simp; omega
  clear hs
  go_enter Try.func11, Try.ntmps11
  go_wp2_with (first
    | (go_at_call 21; refine (usedU _ _ _ _ _ _ _ _).mono ?_; rintro e w1 ⟨rfl, hb1⟩; have k1 := hb1.blk (heap_alloc2_old _ _ _); have k2 := hb1.blk (heap_alloc2_new _ _ _); have q1 := cells7 k1; have q2 := cells7 k2))
  have k3 := blk_set k1 6 (.int .i64 0)
  have k4 := blk_far k2 (p := ⟨w.heap.size, 6, none⟩) (by simp) (.int .i64 0)
  have hb3 : Gr w (w1.setCell ⟨w.heap.size, 6, none⟩ (.int .i64 0)) := by (repeat (first | with_reducible (refine Gr.setCell ?_ ?hp _; case hp => (simp; try omega)) | with_reducible refine Gr.alloc ?_ _ | with_reducible refine Gr.drew ?_ | with_reducible refine Gr.drewN ?_ _ | with_reducible assumption | with_reducible exact Gr.refl _ | with_reducible refine Gr.trans ?_ (by assumption)))
  obtain ⟨W, hW⟩ : ∃ W, W = w1.setCell ⟨w.heap.size, 6, none⟩ (.int .i64 0) := ⟨_, rfl⟩
  rw [← hW] at k3 k4 hb3 ⊢
  clear hW k1 k2 q1 q2 hb1
  have k3' : W.heap[w.heap.size]? = some (.cells #[.int .i64 g0, .int .i64 g1, .int .i64 g2, .int .i64 g3, .int .i64 gl, .int .i64 gr, .int .i64 0] 24 (0, 0)) := k3
  clear k3
  have q3 := cells7 k3'
  have q4 := cells7 k4
  go_region_with ((go_at_call 29; refine (rglyphG _ _ _ (by omega) (by omega)).mono ?_; rintro e w2 ⟨rfl, hb2⟩; have k5 := hb2.blk k3'; have k6 := hb2.blk k4; have q5 := cells7 k5; have q6 := cells7 k6))
  all_goals (go_wp2; refine bodyPost_ret (v := .tuple #[.int .i32 (Gl g1 (c - 128)), .agg #[.int .i64 g0, .int .i64 g1, .int .i64 g2, .int .i64 g3, .int .i64 gl, .int .i64 gr, .int .i64 0]]) (by simp [results, Try.results11, go_sem, *]) rfl ⟨rfl, by (repeat (first | with_reducible (refine Gr.setCell ?_ ?hp _; case hp => (simp; try omega)) | with_reducible refine Gr.alloc ?_ _ | with_reducible refine Gr.drew ?_ | with_reducible refine Gr.drewN ?_ _ | with_reducible assumption | with_reducible exact Gr.refl _ | with_reducible refine Gr.trans ?_ (by assumption)))⟩)

set_option maxRecDepth 100000 in
set_option maxHeartbeats 1000000 in
theorem rmap_Ru2 (g0 g1 g2 g3 gl gr si c : Int) (w : World) (hc : 160 ≤ c) (hc1 : c < 256) (hs : si < 2 ∨ 3 < si) (hu : uR gr = 2) :
    Calls Try.prog 11 #[.agg #[.int .i64 g0, .int .i64 g1, .int .i64 g2, .int .i64 g3, .int .i64 gl, .int .i64 gr, .int .i64 si], .int .u8 c] w fun e w' => e = .returned (.tuple #[.int .i32 (Gl g2 (c - 128)), .agg #[.int .i64 g0, .int .i64 g1, .int .i64 g2, .int .i64 g3, .int .i64 gl, .int .i64 gr, .int .i64 0]]) ∧ Gr w w' := by
  have hm : c % 128 = (c - 128) := by omega
  have e2 : (si == 2) = false := by simp; omega
  have e3 : (si == 3) = false := by simp; omega
  clear hs
  go_enter Try.func11, Try.ntmps11
  go_wp2_with (first
    | (go_at_call 21; refine (usedU _ _ _ _ _ _ _ _).mono ?_; rintro e w1 ⟨rfl, hb1⟩; have k1 := hb1.blk (heap_alloc2_old _ _ _); have k2 := hb1.blk (heap_alloc2_new _ _ _); have q1 := cells7 k1; have q2 := cells7 k2))
  have k3 := blk_set k1 6 (.int .i64 0)
  have k4 := blk_far k2 (p := ⟨w.heap.size, 6, none⟩) (by simp) (.int .i64 0)
  have hb3 : Gr w (w1.setCell ⟨w.heap.size, 6, none⟩ (.int .i64 0)) := by (repeat (first | with_reducible (refine Gr.setCell ?_ ?hp _; case hp => (simp; try omega)) | with_reducible refine Gr.alloc ?_ _ | with_reducible refine Gr.drew ?_ | with_reducible refine Gr.drewN ?_ _ | with_reducible assumption | with_reducible exact Gr.refl _ | with_reducible refine Gr.trans ?_ (by assumption)))
  obtain ⟨W, hW⟩ : ∃ W, W = w1.setCell ⟨w.heap.size, 6, none⟩ (.int .i64 0) := ⟨_, rfl⟩
  rw [← hW] at k3 k4 hb3 ⊢
  clear hW k1 k2 q1 q2 hb1
  have k3' : W.heap[w.heap.size]? = some (.cells #[.int .i64 g0, .int .i64 g1, .int .i64 g2, .int .i64 g3, .int .i64 gl, .int .i64 gr, .int .i64 0] 24 (0, 0)) := k3
  clear k3
  have q3 := cells7 k3'
  have q4 := cells7 k4
  go_region_with ((go_at_call 29; refine (rglyphG _ _ _ (by omega) (by omega)).mono ?_; rintro e w2 ⟨rfl, hb2⟩; have k5 := hb2.blk k3'; have k6 := hb2.blk k4; have q5 := cells7 k5; have q6 := cells7 k6))
  all_goals (go_wp2; refine bodyPost_ret (v := .tuple #[.int .i32 (Gl g2 (c - 128)), .agg #[.int .i64 g0, .int .i64 g1, .int .i64 g2, .int .i64 g3, .int .i64 gl, .int .i64 gr, .int .i64 0]]) (by simp [results, Try.results11, go_sem, *]) rfl ⟨rfl, by (repeat (first | with_reducible (refine Gr.setCell ?_ ?hp _; case hp => (simp; try omega)) | with_reducible refine Gr.alloc ?_ _ | with_reducible refine Gr.drew ?_ | with_reducible refine Gr.drewN ?_ _ | with_reducible assumption | with_reducible exact Gr.refl _ | with_reducible refine Gr.trans ?_ (by assumption)))⟩)

set_option maxRecDepth 100000 in
set_option maxHeartbeats 1000000 in
theorem rmap_Ru3 (g0 g1 g2 g3 gl gr si c : Int) (w : World) (hc : 160 ≤ c) (hc1 : c < 256) (hs : si < 2 ∨ 3 < si) (hu : uR gr = 3) :
    Calls Try.prog 11 #[.agg #[.int .i64 g0, .int .i64 g1, .int .i64 g2, .int .i64 g3, .int .i64 gl, .int .i64 gr, .int .i64 si], .int .u8 c] w fun e w' => e = .returned (.tuple #[.int .i32 (Gl g3 (c - 128)), .agg #[.int .i64 g0, .int .i64 g1, .int .i64 g2, .int .i64 g3, .int .i64 gl, .int .i64 gr, .int .i64 0]]) ∧ Gr w w' := by
  have hm : c % 128 = (c - 128) := by omega
  have e2 : (si == 2) = false := by simp; omega
  have e3 : (si == 3) = false := by simp; omega
  clear hs
  go_enter Try.func11, Try.ntmps11
  go_wp2_with (first
    | (go_at_call 21; refine (usedU _ _ _ _ _ _ _ _).mono ?_; rintro e w1 ⟨rfl, hb1⟩; have k1 := hb1.blk (heap_alloc2_old _ _ _); have k2 := hb1.blk (heap_alloc2_new _ _ _); have q1 := cells7 k1; have q2 := cells7 k2))
  have k3 := blk_set k1 6 (.int .i64 0)
  have k4 := blk_far k2 (p := ⟨w.heap.size, 6, none⟩) (by simp) (.int .i64 0)
  have hb3 : Gr w (w1.setCell ⟨w.heap.size, 6, none⟩ (.int .i64 0)) := by (repeat (first | with_reducible (refine Gr.setCell ?_ ?hp _; case hp => (simp; try omega)) | with_reducible refine Gr.alloc ?_ _ | with_reducible refine Gr.drew ?_ | with_reducible refine Gr.drewN ?_ _ | with_reducible assumption | with_reducible exact Gr.refl _ | with_reducible refine Gr.trans ?_ (by assumption)))
  obtain ⟨W, hW⟩ : ∃ W, W = w1.setCell ⟨w.heap.size, 6, none⟩ (.int .i64 0) := ⟨_, rfl⟩
  rw [← hW] at k3 k4 hb3 ⊢
  clear hW k1 k2 q1 q2 hb1
  have k3' : W.heap[w.heap.size]? = some (.cells #[.int .i64 g0, .int .i64 g1, .int .i64 g2, .int .i64 g3, .int .i64 gl, .int .i64 gr, .int .i64 0] 24 (0, 0)) := k3
  clear k3
  have q3 := cells7 k3'
  have q4 := cells7 k4
  go_region_with ((go_at_call 29; refine (rglyphG _ _ _ (by omega) (by omega)).mono ?_; rintro e w2 ⟨rfl, hb2⟩; have k5 := hb2.blk k3'; have k6 := hb2.blk k4; have q5 := cells7 k5; have q6 := cells7 k6))
  all_goals (go_wp2; refine bodyPost_ret (v := .tuple #[.int .i32 (Gl g3 (c - 128)), .agg #[.int .i64 g0, .int .i64 g1, .int .i64 g2, .int .i64 g3, .int .i64 gl, .int .i64 gr, .int .i64 0]]) (by simp [results, Try.results11, go_sem, *]) rfl ⟨rfl, by (repeat (first | with_reducible (refine Gr.setCell ?_ ?hp _; case hp => (simp; try omega)) | with_reducible refine Gr.alloc ?_ _ | with_reducible refine Gr.drew ?_ | with_reducible refine Gr.drewN ?_ _ | with_reducible assumption | with_reducible exact Gr.refl _ | with_reducible refine Gr.trans ?_ (by assumption)))⟩)

end Go.Proofs.Ytomflpkokcldeaa
