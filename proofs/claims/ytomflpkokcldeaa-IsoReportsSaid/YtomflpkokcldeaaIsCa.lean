/-
  What the program's looking up of a code computes, case by case.
-/
import Derived.Test.YtomflpkokcldeaaIsC
namespace Go.Proofs.Ytomflpkokcldeaa
set_option linter.unusedSimpArgs false
set_option linter.unusedVariables false
open Go.RowKit

set_option maxRecDepth 100000 in
set_option maxHeartbeats 1000000 in
theorem map_ctrl (g0 g1 g2 g3 gl gr si c : Int) (w : World) (h0 : 0 ≤ c) (h1 : c < 256) (hc : c % 128 < 32) :
    Calls Try.prog 10 #[.agg #[.int .i64 g0, .int .i64 g1, .int .i64 g2, .int .i64 g3, .int .i64 gl, .int .i64 gr, .int .i64 si], .int .u8 c] w fun e w' => e = .returned (.tuple #[.int .i32 0, .agg #[.int .i64 g0, .int .i64 g1, .int .i64 g2, .int .i64 g3, .int .i64 gl, .int .i64 gr, .int .i64 si]]) ∧ Gr w w' := by
  have hb := andNot128 c h0 h1
  obtain ⟨d, hd⟩ : ∃ d, d = c % 128 := ⟨_, rfl⟩
  rw [← hd] at hb hc
  clear hd
  go_enter Try.func10, Try.ntmps10
  go_wp2
  go_region
  go_wp2
  exact bodyPost_ret (v := .tuple #[.int .i32 0, .agg #[.int .i64 g0, .int .i64 g1, .int .i64 g2, .int .i64 g3, .int .i64 gl, .int .i64 gr, .int .i64 si]]) (by simp [results, Try.results10, go_sem]) rfl ⟨rfl, by (repeat (first | with_reducible (refine Gr.setCell ?_ ?hp _; case hp => (simp; try omega)) | with_reducible refine Gr.alloc ?_ _ | with_reducible refine Gr.drew ?_ | with_reducible refine Gr.drewN ?_ _ | with_reducible assumption | with_reducible exact Gr.refl _ | with_reducible refine Gr.trans ?_ (by assumption)))⟩

set_option maxRecDepth 100000 in
set_option maxHeartbeats 1000000 in
theorem map_Ls2 (g0 g1 g2 g3 gl gr c : Int) (w : World) (hc : 32 ≤ c) (hc1 : c < 128) :
    Calls Try.prog 10 #[.agg #[.int .i64 g0, .int .i64 g1, .int .i64 g2, .int .i64 g3, .int .i64 gl, .int .i64 gr, .int .i64 2], .int .u8 c] w fun e w' => e = .returned (.tuple #[.int .i32 (Gl g2 c), .agg #[.int .i64 g0, .int .i64 g1, .int .i64 g2, .int .i64 g3, .int .i64 gl, .int .i64 gr, .int .i64 0]]) ∧ Gr w w' := by
  have hm : c % 128 = c := by omega
  have hb : bits BinOp.andNot IntKind.u8 c 128 = c := by rw [andNot128 c (by omega) (by omega)]; omega
  have hs : between 2 3 2 = true := rfl
  have hmf : ∀ (fn : Fn) (first cap : Array Value) (w : World), (Instr.makeFunc fn first cap).run Try.prog w = .ok (.func fn first cap) w := fun _ _ _ _ => rfl
  go_enter Try.func10, Try.ntmps10
  go_wp2_with (first
    | (go_at_call 26; refine (lleftU _ _ _ _ _ _ _ _).mono ?_; rintro e w1 ⟨rfl, hb1⟩; have k1 := hb1.blk (heap_alloc2_old _ _ _); have k2 := hb1.blk (heap_alloc2_new _ _ _); have q1 := cells7 k1; have q2 := cells7 k2)
    | (go_at_call 25; refine (number_any _ _ _ (by decide)).mono ?_; rintro e w1 ⟨rfl, rfl⟩))
  have k3 := blk_set k1 6 (.int .i64 0)
  have k4 := blk_far k2 (p := ⟨w.heap.size, 6, none⟩) (by simp) (.int .i64 0)
  have hb3 : Gr w (w1.setCell ⟨w.heap.size, 6, none⟩ (.int .i64 0)) := by (repeat (first | with_reducible (refine Gr.setCell ?_ ?hp _; case hp => (simp; try omega)) | with_reducible refine Gr.alloc ?_ _ | with_reducible refine Gr.drew ?_ | with_reducible refine Gr.drewN ?_ _ | with_reducible assumption | with_reducible exact Gr.refl _ | with_reducible refine Gr.trans ?_ (by assumption)))
  obtain ⟨W, hW⟩ : ∃ W, W = w1.setCell ⟨w.heap.size, 6, none⟩ (.int .i64 0) := ⟨_, rfl⟩
  rw [← hW] at k3 k4 hb3 ⊢
  clear hW k1 k2 q1 q2 hb1
  have k3' : W.heap[w.heap.size]? = some (.cells #[.int .i64 g0, .int .i64 g1, .int .i64 g2, .int .i64 g3, .int .i64 gl, .int .i64 gr, .int .i64 0] 27 (0, 0)) := k3
  clear k3
  have q3 := cells7 k3'
  have q4 := cells7 k4
  go_region_with ((go_at_call 28; refine (glyph_any _ _ _ (by omega) (by omega)).mono ?_; rintro e w2 ⟨rfl, hb2⟩; have k5 := hb2.blk k3'; have k6 := hb2.blk k4; have q5 := cells7 k5; have q6 := cells7 k6))
  all_goals (go_wp2; refine bodyPost_ret (v := .tuple #[.int .i32 (Gl g2 c), .agg #[.int .i64 g0, .int .i64 g1, .int .i64 g2, .int .i64 g3, .int .i64 gl, .int .i64 gr, .int .i64 0]]) (by simp [results, Try.results10, go_sem, *]) rfl ⟨rfl, by (repeat (first | with_reducible (refine Gr.setCell ?_ ?hp _; case hp => (simp; try omega)) | with_reducible refine Gr.alloc ?_ _ | with_reducible refine Gr.drew ?_ | with_reducible refine Gr.drewN ?_ _ | with_reducible assumption | with_reducible exact Gr.refl _ | with_reducible refine Gr.trans ?_ (by assumption)))⟩)

set_option maxRecDepth 100000 in
set_option maxHeartbeats 1000000 in
theorem map_Ls3 (g0 g1 g2 g3 gl gr c : Int) (w : World) (hc : 32 ≤ c) (hc1 : c < 128) :
    Calls Try.prog 10 #[.agg #[.int .i64 g0, .int .i64 g1, .int .i64 g2, .int .i64 g3, .int .i64 gl, .int .i64 gr, .int .i64 3], .int .u8 c] w fun e w' => e = .returned (.tuple #[.int .i32 (Gl g3 c), .agg #[.int .i64 g0, .int .i64 g1, .int .i64 g2, .int .i64 g3, .int .i64 gl, .int .i64 gr, .int .i64 0]]) ∧ Gr w w' := by
  have hm : c % 128 = c := by omega
  have hb : bits BinOp.andNot IntKind.u8 c 128 = c := by rw [andNot128 c (by omega) (by omega)]; omega
  have hs : between 2 3 3 = true := rfl
  have hmf : ∀ (fn : Fn) (first cap : Array Value) (w : World), (Instr.makeFunc fn first cap).run Try.prog w = .ok (.func fn first cap) w := fun _ _ _ _ => rfl
  go_enter Try.func10, Try.ntmps10
  go_wp2_with (first
    | (go_at_call 26; refine (lleftU _ _ _ _ _ _ _ _).mono ?_; rintro e w1 ⟨rfl, hb1⟩; have k1 := hb1.blk (heap_alloc2_old _ _ _); have k2 := hb1.blk (heap_alloc2_new _ _ _); have q1 := cells7 k1; have q2 := cells7 k2)
    | (go_at_call 25; refine (number_any _ _ _ (by decide)).mono ?_; rintro e w1 ⟨rfl, rfl⟩))
  have k3 := blk_set k1 6 (.int .i64 0)
  have k4 := blk_far k2 (p := ⟨w.heap.size, 6, none⟩) (by simp) (.int .i64 0)
  have hb3 : Gr w (w1.setCell ⟨w.heap.size, 6, none⟩ (.int .i64 0)) := by (repeat (first | with_reducible (refine Gr.setCell ?_ ?hp _; case hp => (simp; try omega)) | with_reducible refine Gr.alloc ?_ _ | with_reducible refine Gr.drew ?_ | with_reducible refine Gr.drewN ?_ _ | with_reducible assumption | with_reducible exact Gr.refl _ | with_reducible refine Gr.trans ?_ (by assumption)))
  obtain ⟨W, hW⟩ : ∃ W, W = w1.setCell ⟨w.heap.size, 6, none⟩ (.int .i64 0) := ⟨_, rfl⟩
  rw [← hW] at k3 k4 hb3 ⊢
  clear hW k1 k2 q1 q2 hb1
  have k3' : W.heap[w.heap.size]? = some (.cells #[.int .i64 g0, .int .i64 g1, .int .i64 g2, .int .i64 g3, .int .i64 gl, .int .i64 gr, .int .i64 0] 27 (0, 0)) := k3
  clear k3
  have q3 := cells7 k3'
  have q4 := cells7 k4
  go_region_with ((go_at_call 28; refine (glyph_any _ _ _ (by omega) (by omega)).mono ?_; rintro e w2 ⟨rfl, hb2⟩; have k5 := hb2.blk k3'; have k6 := hb2.blk k4; have q5 := cells7 k5; have q6 := cells7 k6))
  all_goals (go_wp2; refine bodyPost_ret (v := .tuple #[.int .i32 (Gl g3 c), .agg #[.int .i64 g0, .int .i64 g1, .int .i64 g2, .int .i64 g3, .int .i64 gl, .int .i64 gr, .int .i64 0]]) (by simp [results, Try.results10, go_sem, *]) rfl ⟨rfl, by (repeat (first | with_reducible (refine Gr.setCell ?_ ?hp _; case hp => (simp; try omega)) | with_reducible refine Gr.alloc ?_ _ | with_reducible refine Gr.drew ?_ | with_reducible refine Gr.drewN ?_ _ | with_reducible assumption | with_reducible exact Gr.refl _ | with_reducible refine Gr.trans ?_ (by assumption)))⟩)

set_option maxRecDepth 100000 in
set_option maxHeartbeats 1000000 in
theorem map_Lu0 (g0 g1 g2 g3 gl gr si c : Int) (w : World) (hc : 32 ≤ c) (hc1 : c < 128) (hs : between 2 3 si = false) (hu : uL gl = 0) :
    Calls Try.prog 10 #[.agg #[.int .i64 g0, .int .i64 g1, .int .i64 g2, .int .i64 g3, .int .i64 gl, .int .i64 gr, .int .i64 si], .int .u8 c] w fun e w' => e = .returned (.tuple #[.int .i32 (Gl g0 c), .agg #[.int .i64 g0, .int .i64 g1, .int .i64 g2, .int .i64 g3, .int .i64 gl, .int .i64 gr, .int .i64 0]]) ∧ Gr w w' := by
  have hm : c % 128 = c := by omega
  have hb : bits BinOp.andNot IntKind.u8 c 128 = c := by rw [andNot128 c (by omega) (by omega)]; omega
  have hmf : ∀ (fn : Fn) (first cap : Array Value) (w : World), (Instr.makeFunc fn first cap).run Try.prog w = .ok (.func fn first cap) w := fun _ _ _ _ => rfl
  go_enter Try.func10, Try.ntmps10
  go_wp2_with (first
    | (go_at_call 26; refine (lleftU _ _ _ _ _ _ _ _).mono ?_; rintro e w1 ⟨rfl, hb1⟩; have k1 := hb1.blk (heap_alloc2_old _ _ _); have k2 := hb1.blk (heap_alloc2_new _ _ _); have q1 := cells7 k1; have q2 := cells7 k2)
    | (go_at_call 25; refine (number_any _ _ _ (by decide)).mono ?_; rintro e w1 ⟨rfl, rfl⟩))
  have k3 := blk_set k1 6 (.int .i64 0)
  have k4 := blk_far k2 (p := ⟨w.heap.size, 6, none⟩) (by simp) (.int .i64 0)
  have hb3 : Gr w (w1.setCell ⟨w.heap.size, 6, none⟩ (.int .i64 0)) := by (repeat (first | with_reducible (refine Gr.setCell ?_ ?hp _; case hp => (simp; try omega)) | with_reducible refine Gr.alloc ?_ _ | with_reducible refine Gr.drew ?_ | with_reducible refine Gr.drewN ?_ _ | with_reducible assumption | with_reducible exact Gr.refl _ | with_reducible refine Gr.trans ?_ (by assumption)))
  obtain ⟨W, hW⟩ : ∃ W, W = w1.setCell ⟨w.heap.size, 6, none⟩ (.int .i64 0) := ⟨_, rfl⟩
  rw [← hW] at k3 k4 hb3 ⊢
  clear hW k1 k2 q1 q2 hb1
  have k3' : W.heap[w.heap.size]? = some (.cells #[.int .i64 g0, .int .i64 g1, .int .i64 g2, .int .i64 g3, .int .i64 gl, .int .i64 gr, .int .i64 0] 27 (0, 0)) := k3
  clear k3
  have q3 := cells7 k3'
  have q4 := cells7 k4
  go_region_with ((go_at_call 28; refine (glyph_any _ _ _ (by omega) (by omega)).mono ?_; rintro e w2 ⟨rfl, hb2⟩; have k5 := hb2.blk k3'; have k6 := hb2.blk k4; have q5 := cells7 k5; have q6 := cells7 k6))
  all_goals (go_wp2; refine bodyPost_ret (v := .tuple #[.int .i32 (Gl g0 c), .agg #[.int .i64 g0, .int .i64 g1, .int .i64 g2, .int .i64 g3, .int .i64 gl, .int .i64 gr, .int .i64 0]]) (by simp [results, Try.results10, go_sem, *]) rfl ⟨rfl, by (repeat (first | with_reducible (refine Gr.setCell ?_ ?hp _; case hp => (simp; try omega)) | with_reducible refine Gr.alloc ?_ _ | with_reducible refine Gr.drew ?_ | with_reducible refine Gr.drewN ?_ _ | with_reducible assumption | with_reducible exact Gr.refl _ | with_reducible refine Gr.trans ?_ (by assumption)))⟩)

set_option maxRecDepth 100000 in
set_option maxHeartbeats 1000000 in
theorem map_Lu1 (g0 g1 g2 g3 gl gr si c : Int) (w : World) (hc : 32 ≤ c) (hc1 : c < 128) (hs : between 2 3 si = false) (hu : uL gl = 1) :
    Calls Try.prog 10 #[.agg #[.int .i64 g0, .int .i64 g1, .int .i64 g2, .int .i64 g3, .int .i64 gl, .int .i64 gr, .int .i64 si], .int .u8 c] w fun e w' => e = .returned (.tuple #[.int .i32 (Gl g1 c), .agg #[.int .i64 g0, .int .i64 g1, .int .i64 g2, .int .i64 g3, .int .i64 gl, .int .i64 gr, .int .i64 0]]) ∧ Gr w w' := by
  have hm : c % 128 = c := by omega
  have hb : bits BinOp.andNot IntKind.u8 c 128 = c := by rw [andNot128 c (by omega) (by omega)]; omega
  have hmf : ∀ (fn : Fn) (first cap : Array Value) (w : World), (Instr.makeFunc fn first cap).run Try.prog w = .ok (.func fn first cap) w := fun _ _ _ _ => rfl
  go_enter Try.func10, Try.ntmps10
  go_wp2_with (first
    | (go_at_call 26; refine (lleftU _ _ _ _ _ _ _ _).mono ?_; rintro e w1 ⟨rfl, hb1⟩; have k1 := hb1.blk (heap_alloc2_old _ _ _); have k2 := hb1.blk (heap_alloc2_new _ _ _); have q1 := cells7 k1; have q2 := cells7 k2)
    | (go_at_call 25; refine (number_any _ _ _ (by decide)).mono ?_; rintro e w1 ⟨rfl, rfl⟩))
  have k3 := blk_set k1 6 (.int .i64 0)
  have k4 := blk_far k2 (p := ⟨w.heap.size, 6, none⟩) (by simp) (.int .i64 0)
  have hb3 : Gr w (w1.setCell ⟨w.heap.size, 6, none⟩ (.int .i64 0)) := by (repeat (first | with_reducible (refine Gr.setCell ?_ ?hp _; case hp => (simp; try omega)) | with_reducible refine Gr.alloc ?_ _ | with_reducible refine Gr.drew ?_ | with_reducible refine Gr.drewN ?_ _ | with_reducible assumption | with_reducible exact Gr.refl _ | with_reducible refine Gr.trans ?_ (by assumption)))
  obtain ⟨W, hW⟩ : ∃ W, W = w1.setCell ⟨w.heap.size, 6, none⟩ (.int .i64 0) := ⟨_, rfl⟩
  rw [← hW] at k3 k4 hb3 ⊢
  clear hW k1 k2 q1 q2 hb1
  have k3' : W.heap[w.heap.size]? = some (.cells #[.int .i64 g0, .int .i64 g1, .int .i64 g2, .int .i64 g3, .int .i64 gl, .int .i64 gr, .int .i64 0] 27 (0, 0)) := k3
  clear k3
  have q3 := cells7 k3'
  have q4 := cells7 k4
  go_region_with ((go_at_call 28; refine (glyph_any _ _ _ (by omega) (by omega)).mono ?_; rintro e w2 ⟨rfl, hb2⟩; have k5 := hb2.blk k3'; have k6 := hb2.blk k4; have q5 := cells7 k5; have q6 := cells7 k6))
  all_goals (go_wp2; refine bodyPost_ret (v := .tuple #[.int .i32 (Gl g1 c), .agg #[.int .i64 g0, .int .i64 g1, .int .i64 g2, .int .i64 g3, .int .i64 gl, .int .i64 gr, .int .i64 0]]) (by simp [results, Try.results10, go_sem, *]) rfl ⟨rfl, by (repeat (first | with_reducible (refine Gr.setCell ?_ ?hp _; case hp => (simp; try omega)) | with_reducible refine Gr.alloc ?_ _ | with_reducible refine Gr.drew ?_ | with_reducible refine Gr.drewN ?_ _ | with_reducible assumption | with_reducible exact Gr.refl _ | with_reducible refine Gr.trans ?_ (by assumption)))⟩)

set_option maxRecDepth 100000 in
set_option maxHeartbeats 1000000 in
theorem map_Lu2 (g0 g1 g2 g3 gl gr si c : Int) (w : World) (hc : 32 ≤ c) (hc1 : c < 128) (hs : between 2 3 si = false) (hu : uL gl = 2) :
    Calls Try.prog 10 #[.agg #[.int .i64 g0, .int .i64 g1, .int .i64 g2, .int .i64 g3, .int .i64 gl, .int .i64 gr, .int .i64 si], .int .u8 c] w fun e w' => e = .returned (.tuple #[.int .i32 (Gl g2 c), .agg #[.int .i64 g0, .int .i64 g1, .int .i64 g2, .int .i64 g3, .int .i64 gl, .int .i64 gr, .int .i64 0]]) ∧ Gr w w' := by
  have hm : c % 128 = c := by omega
  have hb : bits BinOp.andNot IntKind.u8 c 128 = c := by rw [andNot128 c (by omega) (by omega)]; omega
  have hmf : ∀ (fn : Fn) (first cap : Array Value) (w : World), (Instr.makeFunc fn first cap).run Try.prog w = .ok (.func fn first cap) w := fun _ _ _ _ => rfl
  go_enter Try.func10, Try.ntmps10
  go_wp2_with (first
    | (go_at_call 26; refine (lleftU _ _ _ _ _ _ _ _).mono ?_; rintro e w1 ⟨rfl, hb1⟩; have k1 := hb1.blk (heap_alloc2_old _ _ _); have k2 := hb1.blk (heap_alloc2_new _ _ _); have q1 := cells7 k1; have q2 := cells7 k2)
    | (go_at_call 25; refine (number_any _ _ _ (by decide)).mono ?_; rintro e w1 ⟨rfl, rfl⟩))
  have k3 := blk_set k1 6 (.int .i64 0)
  have k4 := blk_far k2 (p := ⟨w.heap.size, 6, none⟩) (by simp) (.int .i64 0)
  have hb3 : Gr w (w1.setCell ⟨w.heap.size, 6, none⟩ (.int .i64 0)) := by (repeat (first | with_reducible (refine Gr.setCell ?_ ?hp _; case hp => (simp; try omega)) | with_reducible refine Gr.alloc ?_ _ | with_reducible refine Gr.drew ?_ | with_reducible refine Gr.drewN ?_ _ | with_reducible assumption | with_reducible exact Gr.refl _ | with_reducible refine Gr.trans ?_ (by assumption)))
  obtain ⟨W, hW⟩ : ∃ W, W = w1.setCell ⟨w.heap.size, 6, none⟩ (.int .i64 0) := ⟨_, rfl⟩
  rw [← hW] at k3 k4 hb3 ⊢
  clear hW k1 k2 q1 q2 hb1
  have k3' : W.heap[w.heap.size]? = some (.cells #[.int .i64 g0, .int .i64 g1, .int .i64 g2, .int .i64 g3, .int .i64 gl, .int .i64 gr, .int .i64 0] 27 (0, 0)) := k3
  clear k3
  have q3 := cells7 k3'
  have q4 := cells7 k4
  go_region_with ((go_at_call 28; refine (glyph_any _ _ _ (by omega) (by omega)).mono ?_; rintro e w2 ⟨rfl, hb2⟩; have k5 := hb2.blk k3'; have k6 := hb2.blk k4; have q5 := cells7 k5; have q6 := cells7 k6))
  all_goals (go_wp2; refine bodyPost_ret (v := .tuple #[.int .i32 (Gl g2 c), .agg #[.int .i64 g0, .int .i64 g1, .int .i64 g2, .int .i64 g3, .int .i64 gl, .int .i64 gr, .int .i64 0]]) (by simp [results, Try.results10, go_sem, *]) rfl ⟨rfl, by (repeat (first | with_reducible (refine Gr.setCell ?_ ?hp _; case hp => (simp; try omega)) | with_reducible refine Gr.alloc ?_ _ | with_reducible refine Gr.drew ?_ | with_reducible refine Gr.drewN ?_ _ | with_reducible assumption | with_reducible exact Gr.refl _ | with_reducible refine Gr.trans ?_ (by assumption)))⟩)

set_option maxRecDepth 100000 in
set_option maxHeartbeats 1000000 in
theorem map_Lu3 (g0 g1 g2 g3 gl gr si c : Int) (w : World) (hc : 32 ≤ c) (hc1 : c < 128) (hs : between 2 3 si = false) (hu : uL gl = 3) :
    Calls Try.prog 10 #[.agg #[.int .i64 g0, .int .i64 g1, .int .i64 g2, .int .i64 g3, .int .i64 gl, .int .i64 gr, .int .i64 si], .int .u8 c] w fun e w' => e = .returned (.tuple #[.int .i32 (Gl g3 c), .agg #[.int .i64 g0, .int .i64 g1, .int .i64 g2, .int .i64 g3, .int .i64 gl, .int .i64 gr, .int .i64 0]]) ∧ Gr w w' := by
  have hm : c % 128 = c := by omega
  have hb : bits BinOp.andNot IntKind.u8 c 128 = c := by rw [andNot128 c (by omega) (by omega)]; omega
  have hmf : ∀ (fn : Fn) (first cap : Array Value) (w : World), (Instr.makeFunc fn first cap).run Try.prog w = .ok (.func fn first cap) w := fun _ _ _ _ => rfl
  go_enter Try.func10, Try.ntmps10
  go_wp2_with (first
    | (go_at_call 26; refine (lleftU _ _ _ _ _ _ _ _).mono ?_; rintro e w1 ⟨rfl, hb1⟩; have k1 := hb1.blk (heap_alloc2_old _ _ _); have k2 := hb1.blk (heap_alloc2_new _ _ _); have q1 := cells7 k1; have q2 := cells7 k2)
    | (go_at_call 25; refine (number_any _ _ _ (by decide)).mono ?_; rintro e w1 ⟨rfl, rfl⟩))
  have k3 := blk_set k1 6 (.int .i64 0)
  have k4 := blk_far k2 (p := ⟨w.heap.size, 6, none⟩) (by simp) (.int .i64 0)
  have hb3 : Gr w (w1.setCell ⟨w.heap.size, 6, none⟩ (.int .i64 0)) := by (repeat (first | with_reducible (refine Gr.setCell ?_ ?hp _; case hp => (simp; try omega)) | with_reducible refine Gr.alloc ?_ _ | with_reducible refine Gr.drew ?_ | with_reducible refine Gr.drewN ?_ _ | with_reducible assumption | with_reducible exact Gr.refl _ | with_reducible refine Gr.trans ?_ (by assumption)))
  obtain ⟨W, hW⟩ : ∃ W, W = w1.setCell ⟨w.heap.size, 6, none⟩ (.int .i64 0) := ⟨_, rfl⟩
  rw [← hW] at k3 k4 hb3 ⊢
  clear hW k1 k2 q1 q2 hb1
  have k3' : W.heap[w.heap.size]? = some (.cells #[.int .i64 g0, .int .i64 g1, .int .i64 g2, .int .i64 g3, .int .i64 gl, .int .i64 gr, .int .i64 0] 27 (0, 0)) := k3
  clear k3
  have q3 := cells7 k3'
  have q4 := cells7 k4
  go_region_with ((go_at_call 28; refine (glyph_any _ _ _ (by omega) (by omega)).mono ?_; rintro e w2 ⟨rfl, hb2⟩; have k5 := hb2.blk k3'; have k6 := hb2.blk k4; have q5 := cells7 k5; have q6 := cells7 k6))
  all_goals (go_wp2; refine bodyPost_ret (v := .tuple #[.int .i32 (Gl g3 c), .agg #[.int .i64 g0, .int .i64 g1, .int .i64 g2, .int .i64 g3, .int .i64 gl, .int .i64 gr, .int .i64 0]]) (by simp [results, Try.results10, go_sem, *]) rfl ⟨rfl, by (repeat (first | with_reducible (refine Gr.setCell ?_ ?hp _; case hp => (simp; try omega)) | with_reducible refine Gr.alloc ?_ _ | with_reducible refine Gr.drew ?_ | with_reducible refine Gr.drewN ?_ _ | with_reducible assumption | with_reducible exact Gr.refl _ | with_reducible refine Gr.trans ?_ (by assumption)))⟩)

set_option maxRecDepth 100000 in
set_option maxHeartbeats 1000000 in
theorem map_Rs2 (g0 g1 g2 g3 gl gr c : Int) (w : World) (hc : 160 ≤ c) (hc1 : c < 256) :
    Calls Try.prog 10 #[.agg #[.int .i64 g0, .int .i64 g1, .int .i64 g2, .int .i64 g3, .int .i64 gl, .int .i64 gr, .int .i64 2], .int .u8 c] w fun e w' => e = .returned (.tuple #[.int .i32 (Gl g2 (c - 128)), .agg #[.int .i64 g0, .int .i64 g1, .int .i64 g2, .int .i64 g3, .int .i64 gl, .int .i64 gr, .int .i64 0]]) ∧ Gr w w' := by
  have hm : c % 128 = (c - 128) := by omega
  have hb : bits BinOp.andNot IntKind.u8 c 128 = (c - 128) := by rw [andNot128 c (by omega) (by omega)]; omega
  have hs : between 2 3 2 = true := rfl
  have hmf : ∀ (fn : Fn) (first cap : Array Value) (w : World), (Instr.makeFunc fn first cap).run Try.prog w = .ok (.func fn first cap) w := fun _ _ _ _ => rfl
  go_enter Try.func10, Try.ntmps10
  go_wp2_with (first
    | (go_at_call 27; refine (lrightU _ _ _ _ _ _ _ _).mono ?_; rintro e w1 ⟨rfl, hb1⟩; have k1 := hb1.blk (heap_alloc2_old _ _ _); have k2 := hb1.blk (heap_alloc2_new _ _ _); have q1 := cells7 k1; have q2 := cells7 k2)
    | (go_at_call 25; refine (number_any _ _ _ (by decide)).mono ?_; rintro e w1 ⟨rfl, rfl⟩))
  have k3 := blk_set k1 6 (.int .i64 0)
  have k4 := blk_far k2 (p := ⟨w.heap.size, 6, none⟩) (by simp) (.int .i64 0)
  have hb3 : Gr w (w1.setCell ⟨w.heap.size, 6, none⟩ (.int .i64 0)) := by (repeat (first | with_reducible (refine Gr.setCell ?_ ?hp _; case hp => (simp; try omega)) | with_reducible refine Gr.alloc ?_ _ | with_reducible refine Gr.drew ?_ | with_reducible refine Gr.drewN ?_ _ | with_reducible assumption | with_reducible exact Gr.refl _ | with_reducible refine Gr.trans ?_ (by assumption)))
  obtain ⟨W, hW⟩ : ∃ W, W = w1.setCell ⟨w.heap.size, 6, none⟩ (.int .i64 0) := ⟨_, rfl⟩
  rw [← hW] at k3 k4 hb3 ⊢
  clear hW k1 k2 q1 q2 hb1
  have k3' : W.heap[w.heap.size]? = some (.cells #[.int .i64 g0, .int .i64 g1, .int .i64 g2, .int .i64 g3, .int .i64 gl, .int .i64 gr, .int .i64 0] 27 (0, 0)) := k3
  clear k3
  have q3 := cells7 k3'
  have q4 := cells7 k4
  go_region_with ((go_at_call 28; refine (glyph_any _ _ _ (by omega) (by omega)).mono ?_; rintro e w2 ⟨rfl, hb2⟩; have k5 := hb2.blk k3'; have k6 := hb2.blk k4; have q5 := cells7 k5; have q6 := cells7 k6))
  all_goals (go_wp2; refine bodyPost_ret (v := .tuple #[.int .i32 (Gl g2 (c - 128)), .agg #[.int .i64 g0, .int .i64 g1, .int .i64 g2, .int .i64 g3, .int .i64 gl, .int .i64 gr, .int .i64 0]]) (by simp [results, Try.results10, go_sem, *]) rfl ⟨rfl, by (repeat (first | with_reducible (refine Gr.setCell ?_ ?hp _; case hp => (simp; try omega)) | with_reducible refine Gr.alloc ?_ _ | with_reducible refine Gr.drew ?_ | with_reducible refine Gr.drewN ?_ _ | with_reducible assumption | with_reducible exact Gr.refl _ | with_reducible refine Gr.trans ?_ (by assumption)))⟩)

set_option maxRecDepth 100000 in
set_option maxHeartbeats 1000000 in
theorem map_Rs3 (g0 g1 g2 g3 gl gr c : Int) (w : World) (hc : 160 ≤ c) (hc1 : c < 256) :
    Calls Try.prog 10 #[.agg #[.int .i64 g0, .int .i64 g1, .int .i64 g2, .int .i64 g3, .int .i64 gl, .int .i64 gr, .int .i64 3], .int .u8 c] w fun e w' => e = .returned (.tuple #[.int .i32 (Gl g3 (c - 128)), .agg #[.int .i64 g0, .int .i64 g1, .int .i64 g2, .int .i64 g3, .int .i64 gl, .int .i64 gr, .int .i64 0]]) ∧ Gr w w' := by
  have hm : c % 128 = (c - 128) := by omega
  have hb : bits BinOp.andNot IntKind.u8 c 128 = (c - 128) := by rw [andNot128 c (by omega) (by omega)]; omega
  have hs : between 2 3 3 = true := rfl
  have hmf : ∀ (fn : Fn) (first cap : Array Value) (w : World), (Instr.makeFunc fn first cap).run Try.prog w = .ok (.func fn first cap) w := fun _ _ _ _ => rfl
  go_enter Try.func10, Try.ntmps10
  go_wp2_with (first
    | (go_at_call 27; refine (lrightU _ _ _ _ _ _ _ _).mono ?_; rintro e w1 ⟨rfl, hb1⟩; have k1 := hb1.blk (heap_alloc2_old _ _ _); have k2 := hb1.blk (heap_alloc2_new _ _ _); have q1 := cells7 k1; have q2 := cells7 k2)
    | (go_at_call 25; refine (number_any _ _ _ (by decide)).mono ?_; rintro e w1 ⟨rfl, rfl⟩))
  have k3 := blk_set k1 6 (.int .i64 0)
  have k4 := blk_far k2 (p := ⟨w.heap.size, 6, none⟩) (by simp) (.int .i64 0)
  have hb3 : Gr w (w1.setCell ⟨w.heap.size, 6, none⟩ (.int .i64 0)) := by (repeat (first | with_reducible (refine Gr.setCell ?_ ?hp _; case hp => (simp; try omega)) | with_reducible refine Gr.alloc ?_ _ | with_reducible refine Gr.drew ?_ | with_reducible refine Gr.drewN ?_ _ | with_reducible assumption | with_reducible exact Gr.refl _ | with_reducible refine Gr.trans ?_ (by assumption)))
  obtain ⟨W, hW⟩ : ∃ W, W = w1.setCell ⟨w.heap.size, 6, none⟩ (.int .i64 0) := ⟨_, rfl⟩
  rw [← hW] at k3 k4 hb3 ⊢
  clear hW k1 k2 q1 q2 hb1
  have k3' : W.heap[w.heap.size]? = some (.cells #[.int .i64 g0, .int .i64 g1, .int .i64 g2, .int .i64 g3, .int .i64 gl, .int .i64 gr, .int .i64 0] 27 (0, 0)) := k3
  clear k3
  have q3 := cells7 k3'
  have q4 := cells7 k4
  go_region_with ((go_at_call 28; refine (glyph_any _ _ _ (by omega) (by omega)).mono ?_; rintro e w2 ⟨rfl, hb2⟩; have k5 := hb2.blk k3'; have k6 := hb2.blk k4; have q5 := cells7 k5; have q6 := cells7 k6))
  all_goals (go_wp2; refine bodyPost_ret (v := .tuple #[.int .i32 (Gl g3 (c - 128)), .agg #[.int .i64 g0, .int .i64 g1, .int .i64 g2, .int .i64 g3, .int .i64 gl, .int .i64 gr, .int .i64 0]]) (by simp [results, Try.results10, go_sem, *]) rfl ⟨rfl, by (repeat (first | with_reducible (refine Gr.setCell ?_ ?hp _; case hp => (simp; try omega)) | with_reducible refine Gr.alloc ?_ _ | with_reducible refine Gr.drew ?_ | with_reducible refine Gr.drewN ?_ _ | with_reducible assumption | with_reducible exact Gr.refl _ | with_reducible refine Gr.trans ?_ (by assumption)))⟩)

set_option maxRecDepth 100000 in
set_option maxHeartbeats 1000000 in
theorem map_Ru0 (g0 g1 g2 g3 gl gr si c : Int) (w : World) (hc : 160 ≤ c) (hc1 : c < 256) (hs : between 2 3 si = false) (hu : uR gr = 0) :
    Calls Try.prog 10 #[.agg #[.int .i64 g0, .int .i64 g1, .int .i64 g2, .int .i64 g3, .int .i64 gl, .int .i64 gr, .int .i64 si], .int .u8 c] w fun e w' => e = .returned (.tuple #[.int .i32 (Gl g0 (c - 128)), .agg #[.int .i64 g0, .int .i64 g1, .int .i64 g2, .int .i64 g3, .int .i64 gl, .int .i64 gr, .int .i64 0]]) ∧ Gr w w' := by
  have hm : c % 128 = (c - 128) := by omega
  have hb : bits BinOp.andNot IntKind.u8 c 128 = (c - 128) := by rw [andNot128 c (by omega) (by omega)]; omega
  have hmf : ∀ (fn : Fn) (first cap : Array Value) (w : World), (Instr.makeFunc fn first cap).run Try.prog w = .ok (.func fn first cap) w := fun _ _ _ _ => rfl
  go_enter Try.func10, Try.ntmps10
  go_wp2_with (first
    | (go_at_call 27; refine (lrightU _ _ _ _ _ _ _ _).mono ?_; rintro e w1 ⟨rfl, hb1⟩; have k1 := hb1.blk (heap_alloc2_old _ _ _); have k2 := hb1.blk (heap_alloc2_new _ _ _); have q1 := cells7 k1; have q2 := cells7 k2)
    | (go_at_call 25; refine (number_any _ _ _ (by decide)).mono ?_; rintro e w1 ⟨rfl, rfl⟩))
  have k3 := blk_set k1 6 (.int .i64 0)
  have k4 := blk_far k2 (p := ⟨w.heap.size, 6, none⟩) (by simp) (.int .i64 0)
  have hb3 : Gr w (w1.setCell ⟨w.heap.size, 6, none⟩ (.int .i64 0)) := by (repeat (first | with_reducible (refine Gr.setCell ?_ ?hp _; case hp => (simp; try omega)) | with_reducible refine Gr.alloc ?_ _ | with_reducible refine Gr.drew ?_ | with_reducible refine Gr.drewN ?_ _ | with_reducible assumption | with_reducible exact Gr.refl _ | with_reducible refine Gr.trans ?_ (by assumption)))
  obtain ⟨W, hW⟩ : ∃ W, W = w1.setCell ⟨w.heap.size, 6, none⟩ (.int .i64 0) := ⟨_, rfl⟩
  rw [← hW] at k3 k4 hb3 ⊢
  clear hW k1 k2 q1 q2 hb1
  have k3' : W.heap[w.heap.size]? = some (.cells #[.int .i64 g0, .int .i64 g1, .int .i64 g2, .int .i64 g3, .int .i64 gl, .int .i64 gr, .int .i64 0] 27 (0, 0)) := k3
  clear k3
  have q3 := cells7 k3'
  have q4 := cells7 k4
  go_region_with ((go_at_call 28; refine (glyph_any _ _ _ (by omega) (by omega)).mono ?_; rintro e w2 ⟨rfl, hb2⟩; have k5 := hb2.blk k3'; have k6 := hb2.blk k4; have q5 := cells7 k5; have q6 := cells7 k6))
  all_goals (go_wp2; refine bodyPost_ret (v := .tuple #[.int .i32 (Gl g0 (c - 128)), .agg #[.int .i64 g0, .int .i64 g1, .int .i64 g2, .int .i64 g3, .int .i64 gl, .int .i64 gr, .int .i64 0]]) (by simp [results, Try.results10, go_sem, *]) rfl ⟨rfl, by (repeat (first | with_reducible (refine Gr.setCell ?_ ?hp _; case hp => (simp; try omega)) | with_reducible refine Gr.alloc ?_ _ | with_reducible refine Gr.drew ?_ | with_reducible refine Gr.drewN ?_ _ | with_reducible assumption | with_reducible exact Gr.refl _ | with_reducible refine Gr.trans ?_ (by assumption)))⟩)

set_option maxRecDepth 100000 in
set_option maxHeartbeats 1000000 in
theorem map_Ru1 (g0 g1 g2 g3 gl gr si c : Int) (w : World) (hc : 160 ≤ c) (hc1 : c < 256) (hs : between 2 3 si = false) (hu : uR gr = 1) :
    Calls Try.prog 10 #[.agg #[.int .i64 g0, .int .i64 g1, .int .i64 g2, .int .i64 g3, .int .i64 gl, .int .i64 gr, .int .i64 si], .int .u8 c] w fun e w' => e = .returned (.tuple #[.int .i32 (Gl g1 (c - 128)), .agg #[.int .i64 g0, .int .i64 g1, .int .i64 g2, .int .i64 g3, .int .i64 gl, .int .i64 gr, .int .i64 0]]) ∧ Gr w w' := by
  have hm : c % 128 = (c - 128) := by omega
  have hb : bits BinOp.andNot IntKind.u8 c 128 = (c - 128) := by rw [andNot128 c (by omega) (by omega)]; omega
  have hmf : ∀ (fn : Fn) (first cap : Array Value) (w : World), (Instr.makeFunc fn first cap).run Try.prog w = .ok (.func fn first cap) w := fun _ _ _ _ => rfl
  go_enter Try.func10, Try.ntmps10
  go_wp2_with (first
    | (go_at_call 27; refine (lrightU _ _ _ _ _ _ _ _).mono ?_; rintro e w1 ⟨rfl, hb1⟩; have k1 := hb1.blk (heap_alloc2_old _ _ _); have k2 := hb1.blk (heap_alloc2_new _ _ _); have q1 := cells7 k1; have q2 := cells7 k2)
    | (go_at_call 25; refine (number_any _ _ _ (by decide)).mono ?_; rintro e w1 ⟨rfl, rfl⟩))
  have k3 := blk_set k1 6 (.int .i64 0)
  have k4 := blk_far k2 (p := ⟨w.heap.size, 6, none⟩) (by simp) (.int .i64 0)
  have hb3 : Gr w (w1.setCell ⟨w.heap.size, 6, none⟩ (.int .i64 0)) := by (repeat (first | with_reducible (refine Gr.setCell ?_ ?hp _; case hp => (simp; try omega)) | with_reducible refine Gr.alloc ?_ _ | with_reducible refine Gr.drew ?_ | with_reducible refine Gr.drewN ?_ _ | with_reducible assumption | with_reducible exact Gr.refl _ | with_reducible refine Gr.trans ?_ (by assumption)))
  obtain ⟨W, hW⟩ : ∃ W, W = w1.setCell ⟨w.heap.size, 6, none⟩ (.int .i64 0) := ⟨_, rfl⟩
  rw [← hW] at k3 k4 hb3 ⊢
  clear hW k1 k2 q1 q2 hb1
  have k3' : W.heap[w.heap.size]? = some (.cells #[.int .i64 g0, .int .i64 g1, .int .i64 g2, .int .i64 g3, .int .i64 gl, .int .i64 gr, .int .i64 0] 27 (0, 0)) := k3
  clear k3
  have q3 := cells7 k3'
  have q4 := cells7 k4
  go_region_with ((go_at_call 28; refine (glyph_any _ _ _ (by omega) (by omega)).mono ?_; rintro e w2 ⟨rfl, hb2⟩; have k5 := hb2.blk k3'; have k6 := hb2.blk k4; have q5 := cells7 k5; have q6 := cells7 k6))
  all_goals (go_wp2; refine bodyPost_ret (v := .tuple #[.int .i32 (Gl g1 (c - 128)), .agg #[.int .i64 g0, .int .i64 g1, .int .i64 g2, .int .i64 g3, .int .i64 gl, .int .i64 gr, .int .i64 0]]) (by simp [results, Try.results10, go_sem, *]) rfl ⟨rfl, by (repeat (first | with_reducible (refine Gr.setCell ?_ ?hp _; case hp => (simp; try omega)) | with_reducible refine Gr.alloc ?_ _ | with_reducible refine Gr.drew ?_ | with_reducible refine Gr.drewN ?_ _ | with_reducible assumption | with_reducible exact Gr.refl _ | with_reducible refine Gr.trans ?_ (by assumption)))⟩)

set_option maxRecDepth 100000 in
set_option maxHeartbeats 1000000 in
theorem map_Ru2 (g0 g1 g2 g3 gl gr si c : Int) (w : World) (hc : 160 ≤ c) (hc1 : c < 256) (hs : between 2 3 si = false) (hu : uR gr = 2) :
    Calls Try.prog 10 #[.agg #[.int .i64 g0, .int .i64 g1, .int .i64 g2, .int .i64 g3, .int .i64 gl, .int .i64 gr, .int .i64 si], .int .u8 c] w fun e w' => e = .returned (.tuple #[.int .i32 (Gl g2 (c - 128)), .agg #[.int .i64 g0, .int .i64 g1, .int .i64 g2, .int .i64 g3, .int .i64 gl, .int .i64 gr, .int .i64 0]]) ∧ Gr w w' := by
  have hm : c % 128 = (c - 128) := by omega
  have hb : bits BinOp.andNot IntKind.u8 c 128 = (c - 128) := by rw [andNot128 c (by omega) (by omega)]; omega
  have hmf : ∀ (fn : Fn) (first cap : Array Value) (w : World), (Instr.makeFunc fn first cap).run Try.prog w = .ok (.func fn first cap) w := fun _ _ _ _ => rfl
  go_enter Try.func10, Try.ntmps10
  go_wp2_with (first
    | (go_at_call 27; refine (lrightU _ _ _ _ _ _ _ _).mono ?_; rintro e w1 ⟨rfl, hb1⟩; have k1 := hb1.blk (heap_alloc2_old _ _ _); have k2 := hb1.blk (heap_alloc2_new _ _ _); have q1 := cells7 k1; have q2 := cells7 k2)
    | (go_at_call 25; refine (number_any _ _ _ (by decide)).mono ?_; rintro e w1 ⟨rfl, rfl⟩))
  have k3 := blk_set k1 6 (.int .i64 0)
  have k4 := blk_far k2 (p := ⟨w.heap.size, 6, none⟩) (by simp) (.int .i64 0)
  have hb3 : Gr w (w1.setCell ⟨w.heap.size, 6, none⟩ (.int .i64 0)) := by (repeat (first | with_reducible (refine Gr.setCell ?_ ?hp _; case hp => (simp; try omega)) | with_reducible refine Gr.alloc ?_ _ | with_reducible refine Gr.drew ?_ | with_reducible refine Gr.drewN ?_ _ | with_reducible assumption | with_reducible exact Gr.refl _ | with_reducible refine Gr.trans ?_ (by assumption)))
  obtain ⟨W, hW⟩ : ∃ W, W = w1.setCell ⟨w.heap.size, 6, none⟩ (.int .i64 0) := ⟨_, rfl⟩
  rw [← hW] at k3 k4 hb3 ⊢
  clear hW k1 k2 q1 q2 hb1
  have k3' : W.heap[w.heap.size]? = some (.cells #[.int .i64 g0, .int .i64 g1, .int .i64 g2, .int .i64 g3, .int .i64 gl, .int .i64 gr, .int .i64 0] 27 (0, 0)) := k3
  clear k3
  have q3 := cells7 k3'
  have q4 := cells7 k4
  go_region_with ((go_at_call 28; refine (glyph_any _ _ _ (by omega) (by omega)).mono ?_; rintro e w2 ⟨rfl, hb2⟩; have k5 := hb2.blk k3'; have k6 := hb2.blk k4; have q5 := cells7 k5; have q6 := cells7 k6))
  all_goals (go_wp2; refine bodyPost_ret (v := .tuple #[.int .i32 (Gl g2 (c - 128)), .agg #[.int .i64 g0, .int .i64 g1, .int .i64 g2, .int .i64 g3, .int .i64 gl, .int .i64 gr, .int .i64 0]]) (by simp [results, Try.results10, go_sem, *]) rfl ⟨rfl, by (repeat (first | with_reducible (refine Gr.setCell ?_ ?hp _; case hp => (simp; try omega)) | with_reducible refine Gr.alloc ?_ _ | with_reducible refine Gr.drew ?_ | with_reducible refine Gr.drewN ?_ _ | with_reducible assumption | with_reducible exact Gr.refl _ | with_reducible refine Gr.trans ?_ (by assumption)))⟩)

set_option maxRecDepth 100000 in
set_option maxHeartbeats 1000000 in
theorem map_Ru3 (g0 g1 g2 g3 gl gr si c : Int) (w : World) (hc : 160 ≤ c) (hc1 : c < 256) (hs : between 2 3 si = false) (hu : uR gr = 3) :
    Calls Try.prog 10 #[.agg #[.int .i64 g0, .int .i64 g1, .int .i64 g2, .int .i64 g3, .int .i64 gl, .int .i64 gr, .int .i64 si], .int .u8 c] w fun e w' => e = .returned (.tuple #[.int .i32 (Gl g3 (c - 128)), .agg #[.int .i64 g0, .int .i64 g1, .int .i64 g2, .int .i64 g3, .int .i64 gl, .int .i64 gr, .int .i64 0]]) ∧ Gr w w' := by
  have hm : c % 128 = (c - 128) := by omega
  have hb : bits BinOp.andNot IntKind.u8 c 128 = (c - 128) := by rw [andNot128 c (by omega) (by omega)]; omega
  have hmf : ∀ (fn : Fn) (first cap : Array Value) (w : World), (Instr.makeFunc fn first cap).run Try.prog w = .ok (.func fn first cap) w := fun _ _ _ _ => rfl
  go_enter Try.func10, Try.ntmps10
  go_wp2_with (first
    | (go_at_call 27; refine (lrightU _ _ _ _ _ _ _ _).mono ?_; rintro e w1 ⟨rfl, hb1⟩; have k1 := hb1.blk (heap_alloc2_old _ _ _); have k2 := hb1.blk (heap_alloc2_new _ _ _); have q1 := cells7 k1; have q2 := cells7 k2)
    | (go_at_call 25; refine (number_any _ _ _ (by decide)).mono ?_; rintro e w1 ⟨rfl, rfl⟩))
  have k3 := blk_set k1 6 (.int .i64 0)
  have k4 := blk_far k2 (p := ⟨w.heap.size, 6, none⟩) (by simp) (.int .i64 0)
  have hb3 : Gr w (w1.setCell ⟨w.heap.size, 6, none⟩ (.int .i64 0)) := by (repeat (first | with_reducible (refine Gr.setCell ?_ ?hp _; case hp => (simp; try omega)) | with_reducible refine Gr.alloc ?_ _ | with_reducible refine Gr.drew ?_ | with_reducible refine Gr.drewN ?_ _ | with_reducible assumption | with_reducible exact Gr.refl _ | with_reducible refine Gr.trans ?_ (by assumption)))
  obtain ⟨W, hW⟩ : ∃ W, W = w1.setCell ⟨w.heap.size, 6, none⟩ (.int .i64 0) := ⟨_, rfl⟩
  rw [← hW] at k3 k4 hb3 ⊢
  clear hW k1 k2 q1 q2 hb1
  have k3' : W.heap[w.heap.size]? = some (.cells #[.int .i64 g0, .int .i64 g1, .int .i64 g2, .int .i64 g3, .int .i64 gl, .int .i64 gr, .int .i64 0] 27 (0, 0)) := k3
  clear k3
  have q3 := cells7 k3'
  have q4 := cells7 k4
  go_region_with ((go_at_call 28; refine (glyph_any _ _ _ (by omega) (by omega)).mono ?_; rintro e w2 ⟨rfl, hb2⟩; have k5 := hb2.blk k3'; have k6 := hb2.blk k4; have q5 := cells7 k5; have q6 := cells7 k6))
  all_goals (go_wp2; refine bodyPost_ret (v := .tuple #[.int .i32 (Gl g3 (c - 128)), .agg #[.int .i64 g0, .int .i64 g1, .int .i64 g2, .int .i64 g3, .int .i64 gl, .int .i64 gr, .int .i64 0]]) (by simp [results, Try.results10, go_sem, *]) rfl ⟨rfl, by (repeat (first | with_reducible (refine Gr.setCell ?_ ?hp _; case hp => (simp; try omega)) | with_reducible refine Gr.alloc ?_ _ | with_reducible refine Gr.drew ?_ | with_reducible refine Gr.drewN ?_ _ | with_reducible assumption | with_reducible exact Gr.refl _ | with_reducible refine Gr.trans ?_ (by assumption)))⟩)

end Go.Proofs.Ytomflpkokcldeaa
