/-
  What the small functions on which sets are at hand compute.
-/
import Derived.Test.YtfkecgkfcldffaaDoorZCsWg
namespace Go.Proofs.YtfkecgkfcldffaaDoor
set_option linter.unusedSimpArgs false
set_option linter.unusedVariables false
open Go.RowKit

/-- The one or the other. -/
def selI (b : Bool) (x y : Int) : Int := if b then x else y
theorem selI_true (x y : Int) : selI true x y = x := rfl
theorem selI_false (x y : Int) : selI false x y = y := rfl

set_option maxHeartbeats 400000 in
theorem number_any (g l : Int) (w : World) (hl : l ≤ 3) :
    Calls Tryd.prog 88 #[.int .i64 g, .int .i64 l] w fun e w' => e = .returned (.bool (between l 3 g)) ∧ w = w' := by
  have h3 : (g < l) ∨ (l ≤ g ∧ g ≤ 3) ∨ 3 < g := by omega
  unfold between
  rcases h3 with h | ⟨h, h'⟩ | h
  all_goals
    go_enter Tryd.func88, Tryd.ntmps88
    go_wp2
    all_goals (go_ret; refine ⟨congrArg (fun b => Ending.returned (.bool b)) ?_, rfl⟩; rw [Bool.eq_iff_iff]; (try simp); try omega)

set_option maxHeartbeats 400000 in
theorem lleft_any (g0 g1 g2 g3 gl gr si : Int) (w : World) :
    Calls Tryd.prog 66 #[.agg #[.int .i64 g0, .int .i64 g1, .int .i64 g2, .int .i64 g3, .int .i64 gl, .int .i64 gr, .int .i64 si]] w fun e w' => e = .returned (.int .i64 (selI (between 0 3 gl) gl 0)) ∧ Gr w w' := by
  cases hb : between 0 3 gl
  all_goals
    go_enter Tryd.func66, Tryd.ntmps66
    go_wp2_with (go_at_call 88; refine (number_any _ _ _ (by decide)).mono ?_; rintro e w1 ⟨rfl, rfl⟩)
    go_ret
    exact ⟨rfl, by (repeat (first | with_reducible (refine Gr.setCell ?_ ?hp _; case hp => (simp; try omega)) | with_reducible refine Gr.alloc ?_ _ | with_reducible refine Gr.drew ?_ | with_reducible refine Gr.drewN ?_ _ | with_reducible assumption | with_reducible exact Gr.refl _ | with_reducible refine Gr.trans ?_ (by assumption)))⟩

set_option maxHeartbeats 400000 in
theorem lright_any (g0 g1 g2 g3 gl gr si : Int) (w : World) :
    Calls Tryd.prog 67 #[.agg #[.int .i64 g0, .int .i64 g1, .int .i64 g2, .int .i64 g3, .int .i64 gl, .int .i64 gr, .int .i64 si]] w fun e w' => e = .returned (.int .i64 (selI (between 0 3 gr) gr 2)) ∧ Gr w w' := by
  cases hb : between 0 3 gr
  all_goals
    go_enter Tryd.func67, Tryd.ntmps67
    go_wp2_with (go_at_call 88; refine (number_any _ _ _ (by decide)).mono ?_; rintro e w1 ⟨rfl, rfl⟩)
    go_ret
    exact ⟨rfl, by (repeat (first | with_reducible (refine Gr.setCell ?_ ?hp _; case hp => (simp; try omega)) | with_reducible refine Gr.alloc ?_ _ | with_reducible refine Gr.drew ?_ | with_reducible refine Gr.drewN ?_ _ | with_reducible assumption | with_reducible exact Gr.refl _ | with_reducible refine Gr.trans ?_ (by assumption)))⟩

set_option maxHeartbeats 400000 in
theorem used_any (g0 g1 g2 g3 gl gr si : Int) (w : World) :
    Calls Tryd.prog 36 #[.agg #[.int .i64 g0, .int .i64 g1, .int .i64 g2, .int .i64 g3, .int .i64 gl, .int .i64 gr, .int .i64 si]] w fun e w' => e = .returned (.tuple #[.int .i64 (selI (between 0 3 gl) gl 0), .int .i64 (selI (between 0 3 gr) gr 2)]) ∧ Gr w w' := by
  have h1 : (gl < 0 ∧ between 0 3 gl = false) ∨ (0 ≤ gl ∧ gl ≤ 3 ∧ between 0 3 gl = true) ∨ (3 < gl ∧ between 0 3 gl = false) := by simp [between]; omega
  have h2 : (gr < 0 ∧ between 0 3 gr = false) ∨ (0 ≤ gr ∧ gr ≤ 3 ∧ between 0 3 gr = true) ∨ (3 < gr ∧ between 0 3 gr = false) := by simp [between]; omega
  rcases h1 with ⟨a, h1⟩ | ⟨a, b, h1⟩ | ⟨a, h1⟩
  all_goals rcases h2 with ⟨c, h2⟩ | ⟨c, d, h2⟩ | ⟨c, h2⟩
  all_goals
    rw [h1, h2]
    simp only [selI_true, selI_false]
    clear h1 h2
    go_enter Tryd.func36, Tryd.ntmps36
    go_wp2
    go_ret2
    exact ⟨rfl, by (repeat (first | with_reducible (refine Gr.setCell ?_ ?hp _; case hp => (simp; try omega)) | with_reducible refine Gr.alloc ?_ _ | with_reducible refine Gr.drew ?_ | with_reducible refine Gr.drewN ?_ _ | with_reducible assumption | with_reducible exact Gr.refl _ | with_reducible refine Gr.trans ?_ (by assumption)))⟩

end Go.Proofs.YtfkecgkfcldffaaDoor
