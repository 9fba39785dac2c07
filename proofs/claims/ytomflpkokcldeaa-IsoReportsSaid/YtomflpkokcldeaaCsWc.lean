/-
  The document's glyph of a code.
-/
import Derived.Test.YtomflpkokcldeaaCsWb
namespace Go.Proofs.Ytomflpkokcldeaa
set_option linter.unusedSimpArgs false
set_option linter.unusedVariables false
open Go.RowKit

set_option maxRecDepth 100000 in
set_option maxHeartbeats 1000000 in
theorem rglyph_any (n c : Int) (w : World) (h0 : 0 ≤ c) (h1 : c < 256) :
    Calls Try.prog 29 #[.int .i64 n, .int .u8 c] w fun e w' => e = .returned (.int .i32 (RGl n (c % 128))) ∧ Gr w w' := by
  have hr := rgl_range n (c % 128) (by omega) (by omega)
  obtain ⟨d, hd⟩ : ∃ d, d = c % 128 := ⟨_, rfl⟩
  have d0 : 0 ≤ d := by omega
  have d1 : d < 128 := by omega
  rw [← hd] at hr ⊢
  have hd' := hd.symm
  clear hd
  have h3 : d < 32 ∨ d = 32 ∨ (33 ≤ d ∧ d < 127) ∨ d = 127 := by omega
  rcases h3 with h3 | h3 | ⟨h3, h4⟩ | h3
  all_goals as_aux_lemma =>
    go_enter Try.func29, Try.ntmps29
    go_wp2_with (first
      | (go_at_call 48; refine (nation_any _ _ _).mono ?_; rintro e w' ⟨rfl, rfl⟩)
      | (go_at_call 47; refine (rsuppl_any _ _ (by omega) (by omega)).mono ?_; rintro e w' ⟨rfl, rfl⟩)
      | (go_at_call 46; refine (technical_any _ _ (by omega) (by omega)).mono ?_; rintro e w' ⟨rfl, hbw⟩)
      | (go_at_call 45; refine (special_any _ _ (by omega) (by omega)).mono ?_; rintro e w' ⟨rfl, hbw⟩)
      | (go_at_call 35; go_in))
    all_goals (go_ret; go_light; refine ⟨congrArg (fun x => Ending.returned (Value.int IntKind.i32 x)) ?_, by first | exact Gr.refl _ | assumption⟩)
    all_goals (clear hd')
    all_goals (first | (simp_all [RGl]; done) | (simp_all [RGl]; unfold wrap32; omega) | (simp_all [RGl]; omega) | skip)
    all_goals trace_state
end Go.Proofs.Ytomflpkokcldeaa
