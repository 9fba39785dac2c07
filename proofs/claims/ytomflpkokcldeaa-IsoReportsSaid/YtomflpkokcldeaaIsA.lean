/-
  What the small functions on which sets are at hand compute.
-/
import Derived.Test.YtomflpkokcldeaaCsWg
namespace Go.Proofs.Ytomflpkokcldeaa
set_option linter.unusedSimpArgs false
set_option linter.unusedVariables false
open Go.RowKit

/-- The one or the other. -/
def selI (b : Bool) (x y : Int) : Int := if b then x else y
theorem selI_true (x y : Int) : selI true x y = x := rfl
theorem selI_false (x y : Int) : selI false x y = y := rfl

set_option maxHeartbeats 400000 in
theorem number_any (g l : Int) (w : World) (hl : l ≤ 3) :
    Calls Try.prog 25 #[.int .i64 g, .int .i64 l] w fun e w' => e = .returned (.bool (between l 3 g)) ∧ w = w' := by
  have h3 : (g < l) ∨ (l ≤ g ∧ g ≤ 3) ∨ 3 < g := by omega
  unfold between
  rcases h3 with h | ⟨h, h'⟩ | h
  all_goals
    go_enter Try.func25, Try.ntmps25
    go_wp2
    all_goals (go_ret; refine ⟨congrArg (fun b => Ending.returned (.bool b)) ?_, rfl⟩; rw [Bool.eq_iff_iff]; (try simp); try omega)

set_option maxHeartbeats 400000 in
theorem isnew_any (w : World) :
    Calls Try.prog 17 #[] w fun e w' => e = .returned (.agg #[.int .i64 1, .int .i64 1, .int .i64 4, .int .i64 4, .int .i64 0, .int .i64 2, .int .i64 0]) ∧ Gr w w' := by
  go_enter Try.func17, Try.ntmps17
  go_wp2
  exact bodyPost_ret (v := .agg #[.int .i64 1, .int .i64 1, .int .i64 4, .int .i64 4, .int .i64 0, .int .i64 2, .int .i64 0]) (by simp [results, Try.results17, go_sem]) rfl ⟨rfl, by (repeat (first | with_reducible (refine Gr.setCell ?_ ?hp _; case hp => (simp; try omega)) | with_reducible refine Gr.alloc ?_ _ | with_reducible refine Gr.drew ?_ | with_reducible refine Gr.drewN ?_ _ | with_reducible assumption | with_reducible exact Gr.refl _ | with_reducible refine Gr.trans ?_ (by assumption)))⟩

set_option maxHeartbeats 400000 in
theorem rnew_any (w : World) :
    Calls Try.prog 16 #[] w fun e w' => e = .returned (.agg #[.int .i64 1, .int .i64 1, .int .i64 4, .int .i64 4, .int .i64 0, .int .i64 2, .int .i64 0]) ∧ Gr w w' := by
  go_enter Try.func16, Try.ntmps16
  go_wp2
  exact bodyPost_ret (v := .agg #[.int .i64 1, .int .i64 1, .int .i64 4, .int .i64 4, .int .i64 0, .int .i64 2, .int .i64 0]) (by simp [results, Try.results16, go_sem]) rfl ⟨rfl, by (repeat (first | with_reducible (refine Gr.setCell ?_ ?hp _; case hp => (simp; try omega)) | with_reducible refine Gr.alloc ?_ _ | with_reducible refine Gr.drew ?_ | with_reducible refine Gr.drewN ?_ _ | with_reducible assumption | with_reducible exact Gr.refl _ | with_reducible refine Gr.trans ?_ (by assumption)))⟩

set_option maxHeartbeats 400000 in
theorem own10_any (g0 g1 g2 g3 gl gr si : Int) (w : World) :
    Calls Try.prog 8 #[.agg #[.int .i64 g0, .int .i64 g1, .int .i64 g2, .int .i64 g3, .int .i64 gl, .int .i64 gr, .int .i64 si]] w fun e w' => e = .returned (.agg #[.int .i64 g0, .int .i64 g1, .int .i64 g2, .int .i64 g3, .int .i64 gl, .int .i64 gr, .int .i64 si]) ∧ Gr w w' := by
  go_enter Try.func8, Try.ntmps8
  go_wp2
  exact bodyPost_ret (v := .agg #[.int .i64 g0, .int .i64 g1, .int .i64 g2, .int .i64 g3, .int .i64 gl, .int .i64 gr, .int .i64 si]) (by simp [results, Try.results8, go_sem]) rfl ⟨rfl, by (repeat (first | with_reducible (refine Gr.setCell ?_ ?hp _; case hp => (simp; try omega)) | with_reducible refine Gr.alloc ?_ _ | with_reducible refine Gr.drew ?_ | with_reducible refine Gr.drewN ?_ _ | with_reducible assumption | with_reducible exact Gr.refl _ | with_reducible refine Gr.trans ?_ (by assumption)))⟩

set_option maxHeartbeats 400000 in
theorem told10_any (g0 g1 g2 g3 gl gr si : Int) (w : World) :
    Calls Try.prog 19 #[.agg #[.int .i64 g0, .int .i64 g1, .int .i64 g2, .int .i64 g3, .int .i64 gl, .int .i64 gr, .int .i64 si]] w fun e w' => e = .returned (.agg #[.int .i64 g0, .int .i64 g1, .int .i64 g2, .int .i64 g3, .int .i64 gl, .int .i64 gr, .int .i64 si]) ∧ Gr w w' := by
  go_enter Try.func19, Try.ntmps19
  go_wp2
  exact bodyPost_ret (v := .agg #[.int .i64 g0, .int .i64 g1, .int .i64 g2, .int .i64 g3, .int .i64 gl, .int .i64 gr, .int .i64 si]) (by simp [results, Try.results19, go_sem]) rfl ⟨rfl, by (repeat (first | with_reducible (refine Gr.setCell ?_ ?hp _; case hp => (simp; try omega)) | with_reducible refine Gr.alloc ?_ _ | with_reducible refine Gr.drew ?_ | with_reducible refine Gr.drewN ?_ _ | with_reducible assumption | with_reducible exact Gr.refl _ | with_reducible refine Gr.trans ?_ (by assumption)))⟩

set_option maxHeartbeats 400000 in
theorem left_any (g0 g1 g2 g3 gl gr si  g : Int) (w : World) :
    Calls Try.prog 13 #[.agg #[.int .i64 g0, .int .i64 g1, .int .i64 g2, .int .i64 g3, .int .i64 gl, .int .i64 gr, .int .i64 si], .int .i64 g] w fun e w' => e = .returned (.agg #[.int .i64 g0, .int .i64 g1, .int .i64 g2, .int .i64 g3, .int .i64 (selI (between 0 3 g) g gl), .int .i64 gr, .int .i64 si]) ∧ Gr w w' := by
  cases hb : between 0 3 g
  · rw [selI_false]
    go_enter Try.func13, Try.ntmps13
    go_wp2_with (go_at_call 25; refine (number_any _ _ _ (by decide)).mono ?_; rintro e w1 ⟨rfl, rfl⟩)
    exact bodyPost_ret (v := .agg #[.int .i64 g0, .int .i64 g1, .int .i64 g2, .int .i64 g3, .int .i64 gl, .int .i64 gr, .int .i64 si]) (by simp [results, Try.results13, go_sem]) rfl ⟨rfl, by (repeat (first | with_reducible (refine Gr.setCell ?_ ?hp _; case hp => (simp; try omega)) | with_reducible refine Gr.alloc ?_ _ | with_reducible refine Gr.drew ?_ | with_reducible refine Gr.drewN ?_ _ | with_reducible assumption | with_reducible exact Gr.refl _ | with_reducible refine Gr.trans ?_ (by assumption)))⟩
  · rw [selI_true]
    go_enter Try.func13, Try.ntmps13
    go_wp2_with (go_at_call 25; refine (number_any _ _ _ (by decide)).mono ?_; rintro e w1 ⟨rfl, rfl⟩)
    exact bodyPost_ret (v := .agg #[.int .i64 g0, .int .i64 g1, .int .i64 g2, .int .i64 g3, .int .i64 g, .int .i64 gr, .int .i64 si]) (by simp [results, Try.results13, go_sem]) rfl ⟨rfl, by (repeat (first | with_reducible (refine Gr.setCell ?_ ?hp _; case hp => (simp; try omega)) | with_reducible refine Gr.alloc ?_ _ | with_reducible refine Gr.drew ?_ | with_reducible refine Gr.drewN ?_ _ | with_reducible assumption | with_reducible exact Gr.refl _ | with_reducible refine Gr.trans ?_ (by assumption)))⟩

set_option maxHeartbeats 400000 in
theorem right_any (g0 g1 g2 g3 gl gr si  g : Int) (w : World) :
    Calls Try.prog 14 #[.agg #[.int .i64 g0, .int .i64 g1, .int .i64 g2, .int .i64 g3, .int .i64 gl, .int .i64 gr, .int .i64 si], .int .i64 g] w fun e w' => e = .returned (.agg #[.int .i64 g0, .int .i64 g1, .int .i64 g2, .int .i64 g3, .int .i64 gl, .int .i64 (selI (between 1 3 g) g gr), .int .i64 si]) ∧ Gr w w' := by
  cases hb : between 1 3 g
  · rw [selI_false]
    go_enter Try.func14, Try.ntmps14
    go_wp2_with (go_at_call 25; refine (number_any _ _ _ (by decide)).mono ?_; rintro e w1 ⟨rfl, rfl⟩)
    exact bodyPost_ret (v := .agg #[.int .i64 g0, .int .i64 g1, .int .i64 g2, .int .i64 g3, .int .i64 gl, .int .i64 gr, .int .i64 si]) (by simp [results, Try.results14, go_sem]) rfl ⟨rfl, by (repeat (first | with_reducible (refine Gr.setCell ?_ ?hp _; case hp => (simp; try omega)) | with_reducible refine Gr.alloc ?_ _ | with_reducible refine Gr.drew ?_ | with_reducible refine Gr.drewN ?_ _ | with_reducible assumption | with_reducible exact Gr.refl _ | with_reducible refine Gr.trans ?_ (by assumption)))⟩
  · rw [selI_true]
    go_enter Try.func14, Try.ntmps14
    go_wp2_with (go_at_call 25; refine (number_any _ _ _ (by decide)).mono ?_; rintro e w1 ⟨rfl, rfl⟩)
    exact bodyPost_ret (v := .agg #[.int .i64 g0, .int .i64 g1, .int .i64 g2, .int .i64 g3, .int .i64 gl, .int .i64 g, .int .i64 si]) (by simp [results, Try.results14, go_sem]) rfl ⟨rfl, by (repeat (first | with_reducible (refine Gr.setCell ?_ ?hp _; case hp => (simp; try omega)) | with_reducible refine Gr.alloc ?_ _ | with_reducible refine Gr.drew ?_ | with_reducible refine Gr.drewN ?_ _ | with_reducible assumption | with_reducible exact Gr.refl _ | with_reducible refine Gr.trans ?_ (by assumption)))⟩

set_option maxHeartbeats 400000 in
theorem once_any (g0 g1 g2 g3 gl gr si  g : Int) (w : World) :
    Calls Try.prog 9 #[.agg #[.int .i64 g0, .int .i64 g1, .int .i64 g2, .int .i64 g3, .int .i64 gl, .int .i64 gr, .int .i64 si], .int .i64 g] w fun e w' => e = .returned (.agg #[.int .i64 g0, .int .i64 g1, .int .i64 g2, .int .i64 g3, .int .i64 gl, .int .i64 gr, .int .i64 (selI (between 2 3 g) g si)]) ∧ Gr w w' := by
  cases hb : between 2 3 g
  · rw [selI_false]
    go_enter Try.func9, Try.ntmps9
    go_wp2_with (go_at_call 25; refine (number_any _ _ _ (by decide)).mono ?_; rintro e w1 ⟨rfl, rfl⟩)
    exact bodyPost_ret (v := .agg #[.int .i64 g0, .int .i64 g1, .int .i64 g2, .int .i64 g3, .int .i64 gl, .int .i64 gr, .int .i64 si]) (by simp [results, Try.results9, go_sem]) rfl ⟨rfl, by (repeat (first | with_reducible (refine Gr.setCell ?_ ?hp _; case hp => (simp; try omega)) | with_reducible refine Gr.alloc ?_ _ | with_reducible refine Gr.drew ?_ | with_reducible refine Gr.drewN ?_ _ | with_reducible assumption | with_reducible exact Gr.refl _ | with_reducible refine Gr.trans ?_ (by assumption)))⟩
  · rw [selI_true]
    go_enter Try.func9, Try.ntmps9
    go_wp2_with (go_at_call 25; refine (number_any _ _ _ (by decide)).mono ?_; rintro e w1 ⟨rfl, rfl⟩)
    exact bodyPost_ret (v := .agg #[.int .i64 g0, .int .i64 g1, .int .i64 g2, .int .i64 g3, .int .i64 gl, .int .i64 gr, .int .i64 g]) (by simp [results, Try.results9, go_sem]) rfl ⟨rfl, by (repeat (first | with_reducible (refine Gr.setCell ?_ ?hp _; case hp => (simp; try omega)) | with_reducible refine Gr.alloc ?_ _ | with_reducible refine Gr.drew ?_ | with_reducible refine Gr.drewN ?_ _ | with_reducible assumption | with_reducible exact Gr.refl _ | with_reducible refine Gr.trans ?_ (by assumption)))⟩

set_option maxHeartbeats 400000 in
theorem lleft_any (g0 g1 g2 g3 gl gr si : Int) (w : World) :
    Calls Try.prog 26 #[.agg #[.int .i64 g0, .int .i64 g1, .int .i64 g2, .int .i64 g3, .int .i64 gl, .int .i64 gr, .int .i64 si]] w fun e w' => e = .returned (.int .i64 (selI (between 0 3 gl) gl 0)) ∧ Gr w w' := by
  cases hb : between 0 3 gl
  all_goals
    go_enter Try.func26, Try.ntmps26
    go_wp2_with (go_at_call 25; refine (number_any _ _ _ (by decide)).mono ?_; rintro e w1 ⟨rfl, rfl⟩)
    go_ret
    exact ⟨rfl, by (repeat (first | with_reducible (refine Gr.setCell ?_ ?hp _; case hp => (simp; try omega)) | with_reducible refine Gr.alloc ?_ _ | with_reducible refine Gr.drew ?_ | with_reducible refine Gr.drewN ?_ _ | with_reducible assumption | with_reducible exact Gr.refl _ | with_reducible refine Gr.trans ?_ (by assumption)))⟩

set_option maxHeartbeats 400000 in
theorem lright_any (g0 g1 g2 g3 gl gr si : Int) (w : World) :
    Calls Try.prog 27 #[.agg #[.int .i64 g0, .int .i64 g1, .int .i64 g2, .int .i64 g3, .int .i64 gl, .int .i64 gr, .int .i64 si]] w fun e w' => e = .returned (.int .i64 (selI (between 0 3 gr) gr 2)) ∧ Gr w w' := by
  cases hb : between 0 3 gr
  all_goals
    go_enter Try.func27, Try.ntmps27
    go_wp2_with (go_at_call 25; refine (number_any _ _ _ (by decide)).mono ?_; rintro e w1 ⟨rfl, rfl⟩)
    go_ret
    exact ⟨rfl, by (repeat (first | with_reducible (refine Gr.setCell ?_ ?hp _; case hp => (simp; try omega)) | with_reducible refine Gr.alloc ?_ _ | with_reducible refine Gr.drew ?_ | with_reducible refine Gr.drewN ?_ _ | with_reducible assumption | with_reducible exact Gr.refl _ | with_reducible refine Gr.trans ?_ (by assumption)))⟩

set_option maxHeartbeats 400000 in
theorem used_any (g0 g1 g2 g3 gl gr si : Int) (w : World) :
    Calls Try.prog 21 #[.agg #[.int .i64 g0, .int .i64 g1, .int .i64 g2, .int .i64 g3, .int .i64 gl, .int .i64 gr, .int .i64 si]] w fun e w' => e = .returned (.tuple #[.int .i64 (selI (between 0 3 gl) gl 0), .int .i64 (selI (between 0 3 gr) gr 2)]) ∧ Gr w w' := by
  have h1 : (gl < 0 ∧ between 0 3 gl = false) ∨ (0 ≤ gl ∧ gl ≤ 3 ∧ between 0 3 gl = true) ∨ (3 < gl ∧ between 0 3 gl = false) := by simp [between]; omega
  have h2 : (gr < 0 ∧ between 0 3 gr = false) ∨ (0 ≤ gr ∧ gr ≤ 3 ∧ between 0 3 gr = true) ∨ (3 < gr ∧ between 0 3 gr = false) := by simp [between]; omega
  rcases h1 with ⟨a, h1⟩ | ⟨a, b, h1⟩ | ⟨a, h1⟩
  all_goals rcases h2 with ⟨c, h2⟩ | ⟨c, d, h2⟩ | ⟨c, h2⟩
  all_goals
    rw [h1, h2]
    simp only [selI_true, selI_false]
    clear h1 h2
    go_enter Try.func21, Try.ntmps21
    go_wp2
    go_ret2
    exact ⟨rfl, by (repeat (first | with_reducible (refine Gr.setCell ?_ ?hp _; case hp => (simp; try omega)) | with_reducible refine Gr.alloc ?_ _ | with_reducible refine Gr.drew ?_ | with_reducible refine Gr.drewN ?_ _ | with_reducible assumption | with_reducible exact Gr.refl _ | with_reducible refine Gr.trans ?_ (by assumption)))⟩

set_option maxHeartbeats 400000 in
theorem invl_any (g0 g1 g2 g3 gl gr si  g : Int) (w : World) :
    Calls Try.prog 12 #[.agg #[.int .i64 g0, .int .i64 g1, .int .i64 g2, .int .i64 g3, .int .i64 gl, .int .i64 gr, .int .i64 si], .int .i64 1, .int .i64 g] w fun e w' => e = .returned (.agg #[.int .i64 g0, .int .i64 g1, .int .i64 g2, .int .i64 g3, .int .i64 (selI (between 0 3 g) g gl), .int .i64 gr, .int .i64 si]) ∧ Gr w w' := by
  have h1 : (g < 0 ∧ between 0 3 g = false) ∨ (0 ≤ g ∧ g ≤ 3 ∧ between 0 3 g = true) ∨ (3 < g ∧ between 0 3 g = false) := by simp [between]; omega
  rcases h1 with ⟨a, h1⟩ | ⟨a, b, h1⟩ | ⟨a, h1⟩
  all_goals
    rw [h1]
    simp only [selI_true, selI_false]
    clear h1
    go_enter Try.func12, Try.ntmps12
    go_wp2
    refine bodyPost_ret (v := .agg #[_, _, _, _, _, _, _]) (by simp [results, Try.results12, go_sem]) rfl ⟨rfl, by (repeat (first | with_reducible (refine Gr.setCell ?_ ?hp _; case hp => (simp; try omega)) | with_reducible refine Gr.alloc ?_ _ | with_reducible refine Gr.drew ?_ | with_reducible refine Gr.drewN ?_ _ | with_reducible assumption | with_reducible exact Gr.refl _ | with_reducible refine Gr.trans ?_ (by assumption)))⟩

set_option maxHeartbeats 400000 in
theorem invr_any (g0 g1 g2 g3 gl gr si  g : Int) (w : World) :
    Calls Try.prog 12 #[.agg #[.int .i64 g0, .int .i64 g1, .int .i64 g2, .int .i64 g3, .int .i64 gl, .int .i64 gr, .int .i64 si], .int .i64 2, .int .i64 g] w fun e w' => e = .returned (.agg #[.int .i64 g0, .int .i64 g1, .int .i64 g2, .int .i64 g3, .int .i64 gl, .int .i64 (selI (between 1 3 g) g gr), .int .i64 si]) ∧ Gr w w' := by
  have h1 : (g < 1 ∧ between 1 3 g = false) ∨ (1 ≤ g ∧ g ≤ 3 ∧ between 1 3 g = true) ∨ (3 < g ∧ between 1 3 g = false) := by simp [between]; omega
  rcases h1 with ⟨a, h1⟩ | ⟨a, b, h1⟩ | ⟨a, h1⟩
  all_goals
    rw [h1]
    simp only [selI_true, selI_false]
    clear h1
    go_enter Try.func12, Try.ntmps12
    go_wp2
    refine bodyPost_ret (v := .agg #[_, _, _, _, _, _, _]) (by simp [results, Try.results12, go_sem]) rfl ⟨rfl, by (repeat (first | with_reducible (refine Gr.setCell ?_ ?hp _; case hp => (simp; try omega)) | with_reducible refine Gr.alloc ?_ _ | with_reducible refine Gr.drew ?_ | with_reducible refine Gr.drewN ?_ _ | with_reducible assumption | with_reducible exact Gr.refl _ | with_reducible refine Gr.trans ?_ (by assumption)))⟩

set_option maxHeartbeats 400000 in
theorem invo_any (g0 g1 g2 g3 gl gr si  g : Int) (w : World) :
    Calls Try.prog 12 #[.agg #[.int .i64 g0, .int .i64 g1, .int .i64 g2, .int .i64 g3, .int .i64 gl, .int .i64 gr, .int .i64 si], .int .i64 3, .int .i64 g] w fun e w' => e = .returned (.agg #[.int .i64 g0, .int .i64 g1, .int .i64 g2, .int .i64 g3, .int .i64 gl, .int .i64 gr, .int .i64 (selI (between 2 3 g) g si)]) ∧ Gr w w' := by
  have h1 : (g < 2 ∧ between 2 3 g = false) ∨ (2 ≤ g ∧ g ≤ 3 ∧ between 2 3 g = true) ∨ (3 < g ∧ between 2 3 g = false) := by simp [between]; omega
  rcases h1 with ⟨a, h1⟩ | ⟨a, b, h1⟩ | ⟨a, h1⟩
  all_goals
    rw [h1]
    simp only [selI_true, selI_false]
    clear h1
    go_enter Try.func12, Try.ntmps12
    go_wp2
    refine bodyPost_ret (v := .agg #[_, _, _, _, _, _, _]) (by simp [results, Try.results12, go_sem]) rfl ⟨rfl, by (repeat (first | with_reducible (refine Gr.setCell ?_ ?hp _; case hp => (simp; try omega)) | with_reducible refine Gr.alloc ?_ _ | with_reducible refine Gr.drew ?_ | with_reducible refine Gr.drewN ?_ _ | with_reducible assumption | with_reducible exact Gr.refl _ | with_reducible refine Gr.trans ?_ (by assumption)))⟩

end Go.Proofs.Ytomflpkokcldeaa
