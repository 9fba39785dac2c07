/-
  Looking up a code, whatever the state: both texts answer the same.
-/
import Derived.Test.YtomflpkokcldeaaIsCa
import Derived.Test.YtomflpkokcldeaaIsCb
import Derived.Test.YtomflpkokcldeaaIsE
namespace Go.Proofs.Ytomflpkokcldeaa
set_option linter.unusedSimpArgs false
set_option linter.unusedVariables false
open Go.RowKit

theorem uL_cases (gl : Int) : uL gl = 0 ∨ uL gl = 1 ∨ uL gl = 2 ∨ uL gl = 3 := by
  unfold uL selI
  split
  · rename_i h; simp [between] at h; omega
  · exact .inl rfl
theorem uR_cases (gr : Int) : uR gr = 0 ∨ uR gr = 1 ∨ uR gr = 2 ∨ uR gr = 3 := by
  unfold uR selI
  split
  · rename_i h; simp [between] at h; omega
  · exact .inr (.inr (.inl rfl))

theorem map_any (g0 g1 g2 g3 gl gr si c : Int) (w : World) (h0 : 0 ≤ c) (h1 : c < 256) :
    Calls Try.prog 10 #[.agg #[.int .i64 g0, .int .i64 g1, .int .i64 g2, .int .i64 g3, .int .i64 gl, .int .i64 gr, .int .i64 si], .int .u8 c] w fun e w' => e = .returned (.tuple #[.int .i32 (mapRune g0 g1 g2 g3 gl gr si c), .agg #[.int .i64 g0, .int .i64 g1, .int .i64 g2, .int .i64 g3, .int .i64 gl, .int .i64 gr, .int .i64 (selI (decide (c % 128 < 32)) si 0)]]) ∧ Gr w w' := by
  by_cases hc : c % 128 < 32
  · have e : decide (c % 128 < 32) = true := by simp [hc]
    simp only [mapRune, e, selI_true]
    exact map_ctrl g0 g1 g2 g3 gl gr si c w h0 h1 hc
  · have e : decide (c % 128 < 32) = false := by simp; omega
    simp only [mapRune, e, selI_false, mapAt]
    by_cases hs : si = 2 ∨ si = 3
    · rcases hs with rfl | rfl
      · have eb : between 2 3 2 = true := rfl
        rw [eb]
        simp only [selI_true, gAt, Int.reduceEq, if_false, if_true]
        by_cases hl : c < 128
        · rw [show c % 128 = c by omega]; exact map_Ls2 g0 g1 g2 g3 gl gr c w (by omega) hl
        · rw [show c % 128 = c - 128 by omega]; exact map_Rs2 g0 g1 g2 g3 gl gr c w (by omega) h1
      · have eb : between 2 3 3 = true := rfl
        rw [eb]
        simp only [selI_true, gAt, Int.reduceEq, if_false, if_true]
        by_cases hl : c < 128
        · rw [show c % 128 = c by omega]; exact map_Ls3 g0 g1 g2 g3 gl gr c w (by omega) hl
        · rw [show c % 128 = c - 128 by omega]; exact map_Rs3 g0 g1 g2 g3 gl gr c w (by omega) h1
    · have eb : between 2 3 si = false := by simp [between]; omega
      rw [eb]
      simp only [selI_false]
      by_cases hl : c < 128
      · have ed : decide (128 ≤ c) = false := by simp; omega
        rw [ed, show c % 128 = c by omega]
        simp only [selI_false]
        rcases uL_cases gl with hu | hu | hu | hu
        all_goals (rw [hu]; simp only [gAt, Int.reduceEq, if_false, if_true])
        · exact map_Lu0 g0 g1 g2 g3 gl gr si c w (by omega) hl eb hu
        · exact map_Lu1 g0 g1 g2 g3 gl gr si c w (by omega) hl eb hu
        · exact map_Lu2 g0 g1 g2 g3 gl gr si c w (by omega) hl eb hu
        · exact map_Lu3 g0 g1 g2 g3 gl gr si c w (by omega) hl eb hu
      · have ed : decide (128 ≤ c) = true := by simp; omega
        rw [ed, show c % 128 = c - 128 by omega]
        simp only [selI_true]
        rcases uR_cases gr with hu | hu | hu | hu
        all_goals (rw [hu]; simp only [gAt, Int.reduceEq, if_false, if_true])
        · exact map_Ru0 g0 g1 g2 g3 gl gr si c w (by omega) h1 eb hu
        · exact map_Ru1 g0 g1 g2 g3 gl gr si c w (by omega) h1 eb hu
        · exact map_Ru2 g0 g1 g2 g3 gl gr si c w (by omega) h1 eb hu
        · exact map_Ru3 g0 g1 g2 g3 gl gr si c w (by omega) h1 eb hu

theorem rmap_any (g0 g1 g2 g3 gl gr si c : Int) (w : World) (h0 : 0 ≤ c) (h1 : c < 256) :
    Calls Try.prog 11 #[.agg #[.int .i64 g0, .int .i64 g1, .int .i64 g2, .int .i64 g3, .int .i64 gl, .int .i64 gr, .int .i64 si], .int .u8 c] w fun e w' => e = .returned (.tuple #[.int .i32 (mapRune g0 g1 g2 g3 gl gr si c), .agg #[.int .i64 g0, .int .i64 g1, .int .i64 g2, .int .i64 g3, .int .i64 gl, .int .i64 gr, .int .i64 (selI (decide (c % 128 < 32)) si 0)]]) ∧ Gr w w' := by
  by_cases hc : c % 128 < 32
  · have e : decide (c % 128 < 32) = true := by simp [hc]
    simp only [mapRune, e, selI_true]
    exact rmap_ctrl g0 g1 g2 g3 gl gr si c w h0 h1 (by omega)
  · have e : decide (c % 128 < 32) = false := by simp; omega
    simp only [mapRune, e, selI_false, mapAt]
    by_cases hs : si = 2 ∨ si = 3
    · rcases hs with rfl | rfl
      · have eb : between 2 3 2 = true := rfl
        rw [eb]
        simp only [selI_true, gAt, Int.reduceEq, if_false, if_true]
        by_cases hl : c < 128
        · rw [show c % 128 = c by omega]; exact rmap_Ls2 g0 g1 g2 g3 gl gr c w (by omega) hl
        · rw [show c % 128 = c - 128 by omega]; exact rmap_Rs2 g0 g1 g2 g3 gl gr c w (by omega) h1
      · have eb : between 2 3 3 = true := rfl
        rw [eb]
        simp only [selI_true, gAt, Int.reduceEq, if_false, if_true]
        by_cases hl : c < 128
        · rw [show c % 128 = c by omega]; exact rmap_Ls3 g0 g1 g2 g3 gl gr c w (by omega) hl
        · rw [show c % 128 = c - 128 by omega]; exact rmap_Rs3 g0 g1 g2 g3 gl gr c w (by omega) h1
    · have eb : between 2 3 si = false := by simp [between]; omega
      rw [eb]
      simp only [selI_false]
      by_cases hl : c < 128
      · have ed : decide (128 ≤ c) = false := by simp; omega
        rw [ed, show c % 128 = c by omega]
        simp only [selI_false]
        rcases uL_cases gl with hu | hu | hu | hu
        all_goals (rw [hu]; simp only [gAt, Int.reduceEq, if_false, if_true])
        · exact rmap_Lu0 g0 g1 g2 g3 gl gr si c w (by omega) hl (by simp [between] at eb; omega) hu
        · exact rmap_Lu1 g0 g1 g2 g3 gl gr si c w (by omega) hl (by simp [between] at eb; omega) hu
        · exact rmap_Lu2 g0 g1 g2 g3 gl gr si c w (by omega) hl (by simp [between] at eb; omega) hu
        · exact rmap_Lu3 g0 g1 g2 g3 gl gr si c w (by omega) hl (by simp [between] at eb; omega) hu
      · have ed : decide (128 ≤ c) = true := by simp; omega
        rw [ed, show c % 128 = c - 128 by omega]
        simp only [selI_true]
        rcases uR_cases gr with hu | hu | hu | hu
        all_goals (rw [hu]; simp only [gAt, Int.reduceEq, if_false, if_true])
        · exact rmap_Ru0 g0 g1 g2 g3 gl gr si c w (by omega) h1 (by simp [between] at eb; omega) hu
        · exact rmap_Ru1 g0 g1 g2 g3 gl gr si c w (by omega) h1 (by simp [between] at eb; omega) hu
        · exact rmap_Ru2 g0 g1 g2 g3 gl gr si c w (by omega) h1 (by simp [between] at eb; omega) hu
        · exact rmap_Ru3 g0 g1 g2 g3 gl gr si c w (by omega) h1 (by simp [between] at eb; omega) hu

set_option maxRecDepth 100000 in
set_option maxHeartbeats 1000000 in
theorem awake10 (w : World) :
    Calls Try.prog 7 #[] w fun e w' => e = .returned (.bool true) ∧ Gr w w' := by
  have hd : desOk false ⟨#[48]⟩ 1 = true := by decide +kernel
  have hf : findP false ⟨#[48]⟩ = 2 := by decide +kernel
  have hm : mapRune 1 2 4 4 1 2 0 113 = 9472 := by decide +kernel
  have hs : repSize (gNo 1 1 4 4) 4 = 64 := by decide +kernel
  have hi : repIds (gNo 1 1 4 4) 4 = [66, 66, 37, 53, 37, 53] := by decide +kernel
  have hu : uL 0 = 0 := rfl
  have hr : uR 2 = 2 := rfl
  have hb : between 0 3 1 = true := rfl
  go_enter Try.func7, Try.ntmps7
  go_wp2_with (first
    | (go_at_call 17; refine (isnew_any _).mono ?_; rintro e w1 ⟨rfl, hb1⟩)
    | (go_at_call 15; refine (des_any _ _ _ _ _ _ _ _ _ _ _).mono ?_; rintro e w1 ⟨rfl, hb1⟩)
    | (go_at_call 13; refine (left_any _ _ _ _ _ _ _ _ _).mono ?_; rintro e w1 ⟨rfl, hb1⟩)
    | (go_at_call 10; refine (map_any _ _ _ _ _ _ _ _ _ (by decide) (by decide)).mono ?_; rintro e w1 ⟨rfl, hb1⟩)
    | (go_at_call 20; refine (report_any _ _ _ _ _ _ _ _).mono ?_; rintro e w1 ⟨rfl, hb1⟩))
  go_ret
  exact ⟨rfl, by (repeat (first | with_reducible (refine Gr.setCell ?_ ?hp _; case hp => (simp; try omega)) | with_reducible refine Gr.alloc ?_ _ | with_reducible refine Gr.drew ?_ | with_reducible refine Gr.drewN ?_ _ | with_reducible assumption | with_reducible exact Gr.refl _ | with_reducible refine Gr.trans ?_ (by assumption)))⟩
end Go.Proofs.Ytomflpkokcldeaa
