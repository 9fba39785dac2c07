/-
  What the small functions on which sets are at hand compute.
  What designating a set and looking up a code compute, in both texts.
  What looking up a code computes, in both texts.
-/
import Derived.BigRegion
import Derived.Deep.RegionHeld3
import Derived.Test.YtfkecgkfcldffaaGreatDoorZCsWg
import Derived.Test.YtfkecgkfcldffaaGreatDoorZLw4
namespace Go.Proofs.YtfkecgkfcldffaaGreatDoor
set_option linter.unusedSimpArgs false
set_option linter.unusedVariables false
open Go.RowKit

/-- The one or the other. -/
def selI (b : Bool) (x y : Int) : Int := if b then x else y
theorem selI_true (x y : Int) : selI true x y = x := rfl
theorem selI_false (x y : Int) : selI false x y = y := rfl

set_option maxHeartbeats 400000 in
theorem number_any (g l : Int) (w : World) (hl : l ≤ 3) :
    Calls Tryz.prog 73 #[.int .i64 g, .int .i64 l] w fun e w' => e = .returned (.bool (between l 3 g)) ∧ w = w' := by
  have h3 : (g < l) ∨ (l ≤ g ∧ g ≤ 3) ∨ 3 < g := by omega
  unfold between
  rcases h3 with h | ⟨h, h'⟩ | h
  all_goals
    go_enter Tryz.func73, Tryz.ntmps73
    go_wp2
    all_goals (go_ret; refine ⟨congrArg (fun b => Ending.returned (.bool b)) ?_, rfl⟩; rw [Bool.eq_iff_iff]; (try simp); try omega)

set_option maxHeartbeats 400000 in
theorem left_any (g0 g1 g2 g3 gl gr si  g : Int) (w : World) :
    Calls Tryz.prog 76 #[.agg #[.int .i64 g0, .int .i64 g1, .int .i64 g2, .int .i64 g3, .int .i64 gl, .int .i64 gr, .int .i64 si], .int .i64 g] w fun e w' => e = .returned (.agg #[.int .i64 g0, .int .i64 g1, .int .i64 g2, .int .i64 g3, .int .i64 (selI (between 0 3 g) g gl), .int .i64 gr, .int .i64 si]) ∧ Gr w w' := by
  cases hb : between 0 3 g
  · rw [selI_false]
    go_enter Tryz.func76, Tryz.ntmps76
    go_wp2_with (go_at_call 73; refine (number_any _ _ _ (by decide)).mono ?_; rintro e w1 ⟨rfl, rfl⟩)
    exact bodyPost_ret (v := .agg #[.int .i64 g0, .int .i64 g1, .int .i64 g2, .int .i64 g3, .int .i64 gl, .int .i64 gr, .int .i64 si]) (by simp [results, Tryz.results76, go_sem]) rfl ⟨rfl, by (repeat (first | with_reducible (refine Gr.setCell ?_ ?hp _; case hp => (simp; try omega)) | with_reducible refine Gr.alloc ?_ _ | with_reducible refine Gr.drew ?_ | with_reducible refine Gr.drewN ?_ _ | with_reducible assumption | with_reducible exact Gr.refl _ | with_reducible refine Gr.trans ?_ (by assumption)))⟩
  · rw [selI_true]
    go_enter Tryz.func76, Tryz.ntmps76
    go_wp2_with (go_at_call 73; refine (number_any _ _ _ (by decide)).mono ?_; rintro e w1 ⟨rfl, rfl⟩)
    exact bodyPost_ret (v := .agg #[.int .i64 g0, .int .i64 g1, .int .i64 g2, .int .i64 g3, .int .i64 g, .int .i64 gr, .int .i64 si]) (by simp [results, Tryz.results76, go_sem]) rfl ⟨rfl, by (repeat (first | with_reducible (refine Gr.setCell ?_ ?hp _; case hp => (simp; try omega)) | with_reducible refine Gr.alloc ?_ _ | with_reducible refine Gr.drew ?_ | with_reducible refine Gr.drewN ?_ _ | with_reducible assumption | with_reducible exact Gr.refl _ | with_reducible refine Gr.trans ?_ (by assumption)))⟩

set_option maxHeartbeats 400000 in
theorem right_any (g0 g1 g2 g3 gl gr si  g : Int) (w : World) :
    Calls Tryz.prog 77 #[.agg #[.int .i64 g0, .int .i64 g1, .int .i64 g2, .int .i64 g3, .int .i64 gl, .int .i64 gr, .int .i64 si], .int .i64 g] w fun e w' => e = .returned (.agg #[.int .i64 g0, .int .i64 g1, .int .i64 g2, .int .i64 g3, .int .i64 gl, .int .i64 (selI (between 1 3 g) g gr), .int .i64 si]) ∧ Gr w w' := by
  cases hb : between 1 3 g
  · rw [selI_false]
    go_enter Tryz.func77, Tryz.ntmps77
    go_wp2_with (go_at_call 73; refine (number_any _ _ _ (by decide)).mono ?_; rintro e w1 ⟨rfl, rfl⟩)
    exact bodyPost_ret (v := .agg #[.int .i64 g0, .int .i64 g1, .int .i64 g2, .int .i64 g3, .int .i64 gl, .int .i64 gr, .int .i64 si]) (by simp [results, Tryz.results77, go_sem]) rfl ⟨rfl, by (repeat (first | with_reducible (refine Gr.setCell ?_ ?hp _; case hp => (simp; try omega)) | with_reducible refine Gr.alloc ?_ _ | with_reducible refine Gr.drew ?_ | with_reducible refine Gr.drewN ?_ _ | with_reducible assumption | with_reducible exact Gr.refl _ | with_reducible refine Gr.trans ?_ (by assumption)))⟩
  · rw [selI_true]
    go_enter Tryz.func77, Tryz.ntmps77
    go_wp2_with (go_at_call 73; refine (number_any _ _ _ (by decide)).mono ?_; rintro e w1 ⟨rfl, rfl⟩)
    exact bodyPost_ret (v := .agg #[.int .i64 g0, .int .i64 g1, .int .i64 g2, .int .i64 g3, .int .i64 gl, .int .i64 g, .int .i64 si]) (by simp [results, Tryz.results77, go_sem]) rfl ⟨rfl, by (repeat (first | with_reducible (refine Gr.setCell ?_ ?hp _; case hp => (simp; try omega)) | with_reducible refine Gr.alloc ?_ _ | with_reducible refine Gr.drew ?_ | with_reducible refine Gr.drewN ?_ _ | with_reducible assumption | with_reducible exact Gr.refl _ | with_reducible refine Gr.trans ?_ (by assumption)))⟩

set_option maxHeartbeats 400000 in
theorem once_any (g0 g1 g2 g3 gl gr si  g : Int) (w : World) :
    Calls Tryz.prog 33 #[.agg #[.int .i64 g0, .int .i64 g1, .int .i64 g2, .int .i64 g3, .int .i64 gl, .int .i64 gr, .int .i64 si], .int .i64 g] w fun e w' => e = .returned (.agg #[.int .i64 g0, .int .i64 g1, .int .i64 g2, .int .i64 g3, .int .i64 gl, .int .i64 gr, .int .i64 (selI (between 2 3 g) g si)]) ∧ Gr w w' := by
  cases hb : between 2 3 g
  · rw [selI_false]
    go_enter Tryz.func33, Tryz.ntmps33
    go_wp2_with (go_at_call 73; refine (number_any _ _ _ (by decide)).mono ?_; rintro e w1 ⟨rfl, rfl⟩)
    exact bodyPost_ret (v := .agg #[.int .i64 g0, .int .i64 g1, .int .i64 g2, .int .i64 g3, .int .i64 gl, .int .i64 gr, .int .i64 si]) (by simp [results, Tryz.results33, go_sem]) rfl ⟨rfl, by (repeat (first | with_reducible (refine Gr.setCell ?_ ?hp _; case hp => (simp; try omega)) | with_reducible refine Gr.alloc ?_ _ | with_reducible refine Gr.drew ?_ | with_reducible refine Gr.drewN ?_ _ | with_reducible assumption | with_reducible exact Gr.refl _ | with_reducible refine Gr.trans ?_ (by assumption)))⟩
  · rw [selI_true]
    go_enter Tryz.func33, Tryz.ntmps33
    go_wp2_with (go_at_call 73; refine (number_any _ _ _ (by decide)).mono ?_; rintro e w1 ⟨rfl, rfl⟩)
    exact bodyPost_ret (v := .agg #[.int .i64 g0, .int .i64 g1, .int .i64 g2, .int .i64 g3, .int .i64 gl, .int .i64 gr, .int .i64 g]) (by simp [results, Tryz.results33, go_sem]) rfl ⟨rfl, by (repeat (first | with_reducible (refine Gr.setCell ?_ ?hp _; case hp => (simp; try omega)) | with_reducible refine Gr.alloc ?_ _ | with_reducible refine Gr.drew ?_ | with_reducible refine Gr.drewN ?_ _ | with_reducible assumption | with_reducible exact Gr.refl _ | with_reducible refine Gr.trans ?_ (by assumption)))⟩

set_option maxHeartbeats 400000 in
theorem lleft_any (g0 g1 g2 g3 gl gr si : Int) (w : World) :
    Calls Tryz.prog 64 #[.agg #[.int .i64 g0, .int .i64 g1, .int .i64 g2, .int .i64 g3, .int .i64 gl, .int .i64 gr, .int .i64 si]] w fun e w' => e = .returned (.int .i64 (selI (between 0 3 gl) gl 0)) ∧ Gr w w' := by
  cases hb : between 0 3 gl
  all_goals
    go_enter Tryz.func64, Tryz.ntmps64
    go_wp2_with (go_at_call 73; refine (number_any _ _ _ (by decide)).mono ?_; rintro e w1 ⟨rfl, rfl⟩)
    go_ret
    exact ⟨rfl, by (repeat (first | with_reducible (refine Gr.setCell ?_ ?hp _; case hp => (simp; try omega)) | with_reducible refine Gr.alloc ?_ _ | with_reducible refine Gr.drew ?_ | with_reducible refine Gr.drewN ?_ _ | with_reducible assumption | with_reducible exact Gr.refl _ | with_reducible refine Gr.trans ?_ (by assumption)))⟩

set_option maxHeartbeats 400000 in
theorem lright_any (g0 g1 g2 g3 gl gr si : Int) (w : World) :
    Calls Tryz.prog 65 #[.agg #[.int .i64 g0, .int .i64 g1, .int .i64 g2, .int .i64 g3, .int .i64 gl, .int .i64 gr, .int .i64 si]] w fun e w' => e = .returned (.int .i64 (selI (between 0 3 gr) gr 2)) ∧ Gr w w' := by
  cases hb : between 0 3 gr
  all_goals
    go_enter Tryz.func65, Tryz.ntmps65
    go_wp2_with (go_at_call 73; refine (number_any _ _ _ (by decide)).mono ?_; rintro e w1 ⟨rfl, rfl⟩)
    go_ret
    exact ⟨rfl, by (repeat (first | with_reducible (refine Gr.setCell ?_ ?hp _; case hp => (simp; try omega)) | with_reducible refine Gr.alloc ?_ _ | with_reducible refine Gr.drew ?_ | with_reducible refine Gr.drewN ?_ _ | with_reducible assumption | with_reducible exact Gr.refl _ | with_reducible refine Gr.trans ?_ (by assumption)))⟩

set_option maxHeartbeats 400000 in
theorem used_any (g0 g1 g2 g3 gl gr si : Int) (w : World) :
    Calls Tryz.prog 44 #[.agg #[.int .i64 g0, .int .i64 g1, .int .i64 g2, .int .i64 g3, .int .i64 gl, .int .i64 gr, .int .i64 si]] w fun e w' => e = .returned (.tuple #[.int .i64 (selI (between 0 3 gl) gl 0), .int .i64 (selI (between 0 3 gr) gr 2)]) ∧ Gr w w' := by
  have h1 : (gl < 0 ∧ between 0 3 gl = false) ∨ (0 ≤ gl ∧ gl ≤ 3 ∧ between 0 3 gl = true) ∨ (3 < gl ∧ between 0 3 gl = false) := by simp [between]; omega
  have h2 : (gr < 0 ∧ between 0 3 gr = false) ∨ (0 ≤ gr ∧ gr ≤ 3 ∧ between 0 3 gr = true) ∨ (3 < gr ∧ between 0 3 gr = false) := by simp [between]; omega
  rcases h1 with ⟨a, h1⟩ | ⟨a, b, h1⟩ | ⟨a, h1⟩
  all_goals rcases h2 with ⟨c, h2⟩ | ⟨c, d, h2⟩ | ⟨c, h2⟩
  all_goals
    rw [h1, h2]
    simp only [selI_true, selI_false]
    clear h1 h2
    go_enter Tryz.func44, Tryz.ntmps44
    go_wp2
    go_ret2
    exact ⟨rfl, by (repeat (first | with_reducible (refine Gr.setCell ?_ ?hp _; case hp => (simp; try omega)) | with_reducible refine Gr.alloc ?_ _ | with_reducible refine Gr.drew ?_ | with_reducible refine Gr.drewN ?_ _ | with_reducible assumption | with_reducible exact Gr.refl _ | with_reducible refine Gr.trans ?_ (by assumption)))⟩

end Go.Proofs.YtfkecgkfcldffaaGreatDoor

namespace Go.Proofs.YtfkecgkfcldffaaGreatDoor
set_option linter.unusedSimpArgs false
set_option linter.unusedVariables false
open Go.RowKit

/-- May the set of this id be G g? -/
def desOk (wide : Bool) (id : ByteArray) (g : Int) : Bool := decide (findP wide id ≠ 0) && between 0 3 g && !(decide (g = 0) && wide)

set_option maxRecDepth 100000 in
set_option maxHeartbeats 1000000 in
theorem des_any (g0 g1 g2 g3 gl gr si  g : Int) (wide : Bool) (id : ByteArray) (w : World) :
    Calls Tryz.prog 75 #[.agg #[.int .i64 g0, .int .i64 g1, .int .i64 g2, .int .i64 g3, .int .i64 gl, .int .i64 gr, .int .i64 si], .int .i64 g, .bool wide, .string id] w fun e w' => e = .returned (.tuple #[.agg #[.int .i64 (selI (desOk wide id g && decide (g = 0)) (findP wide id) g0), .int .i64 (selI (desOk wide id g && decide (g = 1)) (findP wide id) g1), .int .i64 (selI (desOk wide id g && decide (g = 2)) (findP wide id) g2), .int .i64 (selI (desOk wide id g && decide (g = 3)) (findP wide id) g3), .int .i64 gl, .int .i64 gr, .int .i64 si], .bool (desOk wide id g)]) ∧ Gr w w' := by
  have hg : g < 0 ∨ g = 0 ∨ g = 1 ∨ g = 2 ∨ g = 3 ∨ 3 < g := by omega
  by_cases hz : findP wide id = 0
  · have hd : desOk wide id g = false := by simp [desOk, hz]
    have hdz : decide (findP wide id ≠ 0) = false := by simp [hz]
    rw [hd]
    simp only [Bool.false_and, selI_false]
    clear hd
    go_enter Tryz.func75, Tryz.ntmps75
    go_wp2_with (first | (go_at_call 103; refine (find_any _ _ _).mono ?_; rintro e w1 ⟨rfl, hb1⟩; have q1 := cells7 (hb1.blk (heap_alloc2_old _ _ _)); have q2 := cells7 (hb1.blk (heap_alloc2_new _ _ _))) | (go_at_call 73; refine (number_any _ _ _ (by decide)).mono ?_; rintro e w1 ⟨rfl, rfl⟩))
    exact bodyPost_ret (v := .tuple #[.agg #[.int .i64 g0, .int .i64 g1, .int .i64 g2, .int .i64 g3, .int .i64 gl, .int .i64 gr, .int .i64 si], .bool false]) (by simp [results, Tryz.results75, go_sem, *]) rfl ⟨rfl, by (repeat (first | with_reducible (refine Gr.setCell ?_ ?hp _; case hp => (simp; try omega)) | with_reducible refine Gr.alloc ?_ _ | with_reducible refine Gr.drew ?_ | with_reducible refine Gr.drewN ?_ _ | with_reducible assumption | with_reducible exact Gr.refl _ | with_reducible refine Gr.trans ?_ (by assumption)))⟩
  · have hdz : decide (findP wide id ≠ 0) = true := by simp [hz]
    have hne : (findP wide id == 0) = false := by simp [hz]
    have hb : between 0 3 g = (decide (0 ≤ g) && decide (g ≤ 3)) := rfl
    rcases hg with hg | hg | hg | hg | hg | hg
    all_goals try subst hg
    all_goals cases wide
    all_goals
      simp only [desOk, hdz]
      try rw [show decide (0 ≤ g) = false from by simp; omega] at hb
      try rw [show decide (g ≤ 3) = false from by simp; omega, Bool.and_false] at hb
      try simp at hb
      simp only [hb, decide_true, decide_false, Int.reduceEq, Bool.false_and, Bool.true_and, Bool.and_false, Bool.and_true, Bool.not_true, Bool.not_false, selI_false, selI_true]
      go_enter Tryz.func75, Tryz.ntmps75
      go_wp2_with (first | (go_at_call 103; refine (find_any _ _ _).mono ?_; rintro e w1 ⟨rfl, hb1⟩; have q1 := cells7 (hb1.blk (heap_alloc2_old _ _ _)); have q2 := cells7 (hb1.blk (heap_alloc2_new _ _ _))) | (go_at_call 73; refine (number_any _ _ _ (by decide)).mono ?_; rintro e w1 ⟨rfl, rfl⟩))
      refine bodyPost_ret (v := .tuple #[.agg #[_, _, _, _, _, _, _], .bool _]) (by simp [results, Tryz.results75, go_sem, *]) rfl ⟨rfl, by (repeat (first | with_reducible (refine Gr.setCell ?_ ?hp _; case hp => (simp; try omega)) | with_reducible refine Gr.alloc ?_ _ | with_reducible refine Gr.drew ?_ | with_reducible refine Gr.drewN ?_ _ | with_reducible assumption | with_reducible exact Gr.refl _ | with_reducible refine Gr.trans ?_ (by assumption)))⟩

end Go.Proofs.YtfkecgkfcldffaaGreatDoor

namespace Go.Proofs.YtfkecgkfcldffaaGreatDoor
set_option linter.unusedSimpArgs false
set_option linter.unusedVariables false
open Go.RowKit

def uL (gl : Int) : Int := selI (between 0 3 gl) gl 0
def uR (gr : Int) : Int := selI (between 0 3 gr) gr 2
theorem lleftU (g0 g1 g2 g3 gl gr si : Int) (w : World) :
    Calls Tryz.prog 64 #[.agg #[.int .i64 g0, .int .i64 g1, .int .i64 g2, .int .i64 g3, .int .i64 gl, .int .i64 gr, .int .i64 si]] w fun e w' => e = .returned (.int .i64 (uL gl)) ∧ Gr w w' := lleft_any g0 g1 g2 g3 gl gr si w
theorem lrightU (g0 g1 g2 g3 gl gr si : Int) (w : World) :
    Calls Tryz.prog 65 #[.agg #[.int .i64 g0, .int .i64 g1, .int .i64 g2, .int .i64 g3, .int .i64 gl, .int .i64 gr, .int .i64 si]] w fun e w' => e = .returned (.int .i64 (uR gr)) ∧ Gr w w' := lright_any g0 g1 g2 g3 gl gr si w

end Go.Proofs.YtfkecgkfcldffaaGreatDoor
