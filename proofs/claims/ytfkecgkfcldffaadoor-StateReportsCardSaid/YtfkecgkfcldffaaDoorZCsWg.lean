/-
  The laws on ids, names and finding of sets of characters; the law on national sets, the law on what is shown.
-/
import Derived.Test.YtfkecgkfcldffaaDoorZCsWf
namespace Go.Proofs.YtfkecgkfcldffaaDoor
set_option linter.unusedSimpArgs false
set_option linter.unusedVariables false
open Go.RowKit

theorem field_row (i : Nat) (hi : i = 1 ∨ i = 2 ∨ i = 3) (a b c d : Value) (w : World) : (Instr.field 139 (.agg #[a, b, c, d]) i).run Tryd.prog w = .ok (if i = 1 then b else if i = 2 then c else d) w := by
  rcases hi with rfl | rfl | rfl <;> (show _ = _; kernel_rfl)

set_option maxHeartbeats 400000 in
theorem id_any (n : Int) (w : World) :
    Calls Tryd.prog 64 #[.int .i64 n] w fun e w' => e = .returned (.tuple #[.string (idOf n), .bool (wideOf n)]) ∧ Gr w w' := by
  have f1 := fun a b c d w => field_row 1 (.inl rfl) a b c d w
  have f2 := fun a b c d w => field_row 2 (.inr (.inl rfl)) a b c d w
  simp only [if_true, if_false, Nat.reduceEqDiff] at f1 f2
  go_enter Tryd.func64, Tryd.ntmps64
  go_wp2_with (go_at_call 86; refine (of_any _ _).mono ?_; rintro e w1 ⟨rfl, hb⟩)
  go_ret2
  exact ⟨rfl, by (repeat (first | with_reducible (refine Gr.setCell ?_ ?hp _; case hp => (simp; try omega)) | with_reducible refine Gr.alloc ?_ _ | with_reducible refine Gr.drew ?_ | with_reducible refine Gr.drewN ?_ _ | with_reducible assumption | with_reducible exact Gr.refl _ | with_reducible refine Gr.trans ?_ (by assumption)))⟩

end Go.Proofs.YtfkecgkfcldffaaDoor
