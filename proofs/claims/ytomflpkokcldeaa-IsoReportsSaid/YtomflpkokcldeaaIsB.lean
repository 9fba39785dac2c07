/-
  What designating a set and looking up a code compute, in both texts.
-/
import Derived.Test.YtomflpkokcldeaaIsA
import Derived.Test.YtomflpkokcldeaaLw2
import Derived.BigRegion
import Derived.Deep.RegionHeld3
namespace Go.Proofs.Ytomflpkokcldeaa
set_option linter.unusedSimpArgs false
set_option linter.unusedVariables false
open Go.RowKit

/-- May the set of this id be G g? -/
def desOk (wide : Bool) (id : ByteArray) (g : Int) : Bool := decide (findP wide id ≠ 0) && between 0 3 g && !(decide (g = 0) && wide)

set_option maxRecDepth 100000 in
set_option maxHeartbeats 1000000 in
theorem des_any (g0 g1 g2 g3 gl gr si  g : Int) (wide : Bool) (id : ByteArray) (w : World) :
    Calls Try.prog 15 #[.agg #[.int .i64 g0, .int .i64 g1, .int .i64 g2, .int .i64 g3, .int .i64 gl, .int .i64 gr, .int .i64 si], .int .i64 g, .bool wide, .string id] w fun e w' => e = .returned (.tuple #[.agg #[.int .i64 (selI (desOk wide id g && decide (g = 0)) (findP wide id) g0), .int .i64 (selI (desOk wide id g && decide (g = 1)) (findP wide id) g1), .int .i64 (selI (desOk wide id g && decide (g = 2)) (findP wide id) g2), .int .i64 (selI (desOk wide id g && decide (g = 3)) (findP wide id) g3), .int .i64 gl, .int .i64 gr, .int .i64 si], .bool (desOk wide id g)]) ∧ Gr w w' := by
  have hg : g < 0 ∨ g = 0 ∨ g = 1 ∨ g = 2 ∨ g = 3 ∨ 3 < g := by omega
  by_cases hz : findP wide id = 0
  · have hd : desOk wide id g = false := by simp [desOk, hz]
    have hdz : decide (findP wide id ≠ 0) = false := by simp [hz]
    rw [hd]
    simp only [Bool.false_and, selI_false]
    clear hd
    go_enter Try.func15, Try.ntmps15
    go_wp2_with (first | (go_at_call 30; refine (find_any _ _ _).mono ?_; rintro e w1 ⟨rfl, hb1⟩; have q1 := cells7 (hb1.blk (heap_alloc2_old _ _ _)); have q2 := cells7 (hb1.blk (heap_alloc2_new _ _ _))) | (go_at_call 25; refine (number_any _ _ _ (by decide)).mono ?_; rintro e w1 ⟨rfl, rfl⟩))
    exact bodyPost_ret (v := .tuple #[.agg #[.int .i64 g0, .int .i64 g1, .int .i64 g2, .int .i64 g3, .int .i64 gl, .int .i64 gr, .int .i64 si], .bool false]) (by simp [results, Try.results15, go_sem, *]) rfl ⟨rfl, by (repeat (first | with_reducible (refine Gr.setCell ?_ ?hp _; case hp => (simp; try omega)) | with_reducible refine Gr.alloc ?_ _ | with_reducible refine Gr.drew ?_ | with_reducible refine Gr.drewN ?_ _ | with_reducible assumption | with_reducible exact Gr.refl _ | with_reducible refine Gr.trans ?_ (by assumption)))⟩
  · have hdz : decide (findP wide id ≠ 0) = true := by simp [hz]
    have hne : (findP wide id == 0) = false := by simp [hz]
    have hb : between 0 3 g = (decide (0 ≤ g) && decide (g ≤ 3)) := rfl
    rcases hg with hg | hg | hg | hg | hg | hg
    all_goals try subst hg
    all_goals cases wide
    all_goals
      simp only [desOk, hdz]
      try rw [show decide (0 ≤ g) = false from by simp; omega] at hb
      try rw [show decide (g ≤ 3) = false from by simp; omega, Bool.and_false] at hb
      try simp at hb
      simp only [hb, decide_true, decide_false, Int.reduceEq, Bool.false_and, Bool.true_and, Bool.and_false, Bool.and_true, Bool.not_true, Bool.not_false, selI_false, selI_true]
      go_enter Try.func15, Try.ntmps15
      go_wp2_with (first | (go_at_call 30; refine (find_any _ _ _).mono ?_; rintro e w1 ⟨rfl, hb1⟩; have q1 := cells7 (hb1.blk (heap_alloc2_old _ _ _)); have q2 := cells7 (hb1.blk (heap_alloc2_new _ _ _))) | (go_at_call 25; refine (number_any _ _ _ (by decide)).mono ?_; rintro e w1 ⟨rfl, rfl⟩))
      refine bodyPost_ret (v := .tuple #[.agg #[_, _, _, _, _, _, _], .bool _]) (by simp [results, Try.results15, go_sem, *]) rfl ⟨rfl, by (repeat (first | with_reducible (refine Gr.setCell ?_ ?hp _; case hp => (simp; try omega)) | with_reducible refine Gr.alloc ?_ _ | with_reducible refine Gr.drew ?_ | with_reducible refine Gr.drewN ?_ _ | with_reducible assumption | with_reducible exact Gr.refl _ | with_reducible refine Gr.trans ?_ (by assumption)))⟩

set_option maxRecDepth 100000 in
set_option maxHeartbeats 1000000 in
theorem rdes_any (g0 g1 g2 g3 gl gr si  g : Int) (wide : Bool) (id : ByteArray) (w : World) :
    Calls Try.prog 31 #[.agg #[.int .i64 g0, .int .i64 g1, .int .i64 g2, .int .i64 g3, .int .i64 gl, .int .i64 gr, .int .i64 si], .int .i64 g, .bool wide, .string id] w fun e w' => e = .returned (.tuple #[.agg #[.int .i64 (selI (desOk wide id g && decide (g = 0)) (findP wide id) g0), .int .i64 (selI (desOk wide id g && decide (g = 1)) (findP wide id) g1), .int .i64 (selI (desOk wide id g && decide (g = 2)) (findP wide id) g2), .int .i64 (selI (desOk wide id g && decide (g = 3)) (findP wide id) g3), .int .i64 gl, .int .i64 gr, .int .i64 si], .bool (desOk wide id g)]) ∧ Gr w w' := by
  have hg : g < 0 ∨ g = 0 ∨ g = 1 ∨ g = 2 ∨ g = 3 ∨ 3 < g := by omega
  by_cases hz : findP wide id = 0
  · have hd : desOk wide id g = false := by simp [desOk, hz]
    have hdz : decide (findP wide id ≠ 0) = false := by simp [hz]
    rw [hd]
    simp only [Bool.false_and, selI_false]
    clear hd
    go_enter Try.func31, Try.ntmps31
    go_wp2_with (first | (go_at_call 50; refine (rfind_any _ _ _).mono ?_; rintro e w1 ⟨rfl, rfl⟩))
    exact bodyPost_ret (v := .tuple #[.agg #[.int .i64 g0, .int .i64 g1, .int .i64 g2, .int .i64 g3, .int .i64 gl, .int .i64 gr, .int .i64 si], .bool false]) (by simp [results, Try.results31, go_sem, *]) rfl ⟨rfl, by (repeat (first | with_reducible (refine Gr.setCell ?_ ?hp _; case hp => (simp; try omega)) | with_reducible refine Gr.alloc ?_ _ | with_reducible refine Gr.drew ?_ | with_reducible refine Gr.drewN ?_ _ | with_reducible assumption | with_reducible exact Gr.refl _ | with_reducible refine Gr.trans ?_ (by assumption)))⟩
  · have hdz : decide (findP wide id ≠ 0) = true := by simp [hz]
    have hne : (findP wide id == 0) = false := by simp [hz]
    have hb : between 0 3 g = (decide (0 ≤ g) && decide (g ≤ 3)) := rfl
    rcases hg with hg | hg | hg | hg | hg | hg
    all_goals try subst hg
    all_goals cases wide
    all_goals
      simp only [desOk, hdz]
      try rw [show decide (0 ≤ g) = false from by simp; omega] at hb
      try rw [show decide (g ≤ 3) = false from by simp; omega, Bool.and_false] at hb
      try simp at hb
      simp only [hb, decide_true, decide_false, Int.reduceEq, Bool.false_and, Bool.true_and, Bool.and_false, Bool.and_true, Bool.not_true, Bool.not_false, selI_false, selI_true]
      go_enter Try.func31, Try.ntmps31
      go_wp2_with (first | (go_at_call 50; refine (rfind_any _ _ _).mono ?_; rintro e w1 ⟨rfl, rfl⟩))
      refine bodyPost_ret (v := .tuple #[.agg #[_, _, _, _, _, _, _], .bool _]) (by simp [results, Try.results31, go_sem, *]) rfl ⟨rfl, by (repeat (first | with_reducible (refine Gr.setCell ?_ ?hp _; case hp => (simp; try omega)) | with_reducible refine Gr.alloc ?_ _ | with_reducible refine Gr.drew ?_ | with_reducible refine Gr.drewN ?_ _ | with_reducible assumption | with_reducible exact Gr.refl _ | with_reducible refine Gr.trans ?_ (by assumption)))⟩

end Go.Proofs.Ytomflpkokcldeaa
