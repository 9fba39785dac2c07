/-
  Law 18's fixed fact; a character of G3.
-/
import Derived.Test.YtjfffkaifcajbaaDoorZRyI
namespace Go.Proofs.YtjfffkaifcajbaaDoor
set_option linter.unusedSimpArgs false
set_option linter.unusedVariables false
open Go.RowKit
set_option linter.unusedVariables false

theorem aw_1 : csiR [63, 36, 121] [7, 1] false = [27, 91, 63, 55, 59, 49, 36, 121] := by decide +kernel
theorem aw_2 : csiR (placeI (-1)) (placeR 0 0 (-1)) true = [155, 49, 59, 49, 82] := by decide +kernel
theorem aw_3 : dcsR [33, 126] (sumD 255) [3] false = [27, 80, 51, 33, 126, 48, 48, 70, 70, 27, 92] := by decide +kernel
set_option maxRecDepth 100000 in
set_option maxHeartbeats 2000000 in
theorem awake18 {w : World} (hT : tabT w) : Calls Tryd.prog 7 #[] w fun e w' => e = .returned (.bool true) ∧ Gr w w' := by
  have L := lits (w := w) ⟨#[63, 36, 121]⟩ [63, 36, 121] false rfl (by decide) hT
  have c1 := L.c2
  have c2 := fun (W : World) (hg : Gr w W) => place_any true 0 0 (-1) (hT.gr hg) (by decide)
  have c3 := fun (W : World) (hg : Gr w W) => sum_any false 3 255 (hT.gr hg) (by decide) (by decide)
  have C1 : ∀ (W : World) (g : Nat), Gr w W → W.heap[g]? = some (.cells #[.int .i64 7, .int .i64 1] 3 (0, 0)) → Calls Tryd.prog 26 #[.bool false, .string ⟨#[63, 36, 121]⟩, .slice (some ⟨g, 0, none⟩) 2 2] W (AnsOwn W [27, 91, 63, 55, 59, 49, 36, 121]) := fun W g hg h => by
    rw [← aw_1]; exact c1 W g 7 1 hg h
  rw [aw_2] at c2
  rw [aw_3] at c3
  clear c1 L
  have hA := heap_alloc_new w (.cells #[.int .i64 7, .int .i64 1] 3)
  have hgA := (Gr.refl w).alloc (.cells #[.int .i64 7, .int .i64 1] 3)
  go_enter Tryd.func7, Tryd.ntmps7
  go_wp2_with (first
    | (go_at_call 26; (with_reducible refine (C1 _ _ hgA hA).mono ?_); rintro e w1 ⟨va, vc, rfl, hO, hg1⟩; have hg1' := hgA.trans hg1; have hcv : (convert 30 9 (.slice va 8 vc)).run Tryd.prog w1 = .ok (.string ⟨#[27, 91, 63, 55, 59, 49, 36, 121]⟩) w1 := conv_own8 hO rfl)
    | (go_at_call 18; (with_reducible refine (c2 _ hg1').mono ?_); rintro e w2 ⟨vb, vd, rfl, hO2, hg2⟩; have hg2' := hg1'.trans hg2; have hcv2 : (convert 30 9 (.slice vb 5 vd)).run Tryd.prog w2 = .ok (.string ⟨#[155, 49, 59, 49, 82]⟩) w2 := conv_own8 hO2 rfl)
    | (go_at_call 22; (with_reducible refine (c3 _ hg2').mono ?_); rintro e w3 ⟨ve, vf, rfl, hO3, hg3⟩; have hg3' := hg2'.trans hg3; have hcv3 : (convert 30 9 (.slice ve 11 vf)).run Tryd.prog w3 = .ok (.string ⟨#[27, 80, 51, 33, 126, 48, 48, 70, 70, 27, 92]⟩) w3 := conv_own8 hO3 rfl))
  go_ret
  exact ⟨rfl, hg3'⟩
end Go.Proofs.YtjfffkaifcajbaaDoor
