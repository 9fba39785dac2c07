/-
  Tab stops: the fixed fact.
-/
import Derived.Test.YtjdmobildcgidaaDoorTbO
import Derived.Test.YtjdmobildcgidaaDoorLaid
namespace Go.Proofs.YtjdmobildcgidaaDoor
set_option linter.unusedSimpArgs false
set_option linter.unusedVariables false
open Go.RowKit
set_option linter.unusedVariables false

theorem MaxOk.of {w : World} (h : w.ShapedOpen Tryd.prog) : MaxOk w := Tryd.laysM146.s1_3 w h
theorem l20_next : nextR ((rszL [] 20).length : Nat) (lf (rszL [] 20)) 16 1 = 19 := by kernel_rfl
theorem l20_back : backR ((rszL [] 20).length : Nat) (lf (rszL [] 20)) 16 1 = 8 := by kernel_rfl
theorem l20_list : listF (lf (rszL [] 20)) 512 = [8, 16] := by kernel_rfl
theorem l20_len : (rszL [] 20).length = 20 := by kernel_rfl

theorem l20_facts (p : Nat) (w1 : World) (hl : LAt w1 p (rszL [] 20)) (hT : TabOk w1) :
    (∀ W, Gr w1 W → Calls Tryd.prog 21 #[.pointer (some ⟨p, 0, none⟩)] W fun e w' => e = .returned (.int .i64 20) ∧ W = w') ∧
    (∀ W, Gr w1 W → Calls Tryd.prog 19 #[.pointer (some ⟨p, 0, none⟩)] W (NOut W [8, 16])) ∧
    (∀ W, Gr w1 W → Calls Tryd.prog 11 #[.pointer (some ⟨p, 0, none⟩), .int .i64 16, .int .i64 1] W fun e w' => e = .returned (.int .i64 19) ∧ Gr W w') ∧
    (∀ W, Gr w1 W → Calls Tryd.prog 12 #[.pointer (some ⟨p, 0, none⟩), .int .i64 16, .int .i64 1] W fun e w' => e = .returned (.int .i64 8) ∧ Gr W w') := by
  have hb : (0 : Int) ≤ ((rszL [] 20).length : Nat) ∧ (((rszL [] 20).length : Nat) : Int) ≤ 500 := by rw [l20_len]; omega
  refine ⟨fun W hg => ?_, fun W hg => ?_, fun W hg => ?_, fun W hg => ?_⟩
  · have h := cols_any p _ _ W (StAt.gr hl hg)
    rw [l20_len] at h
    exact h
  · have h := list_any p _ _ W (StAt.gr hl hg) (hT.gr hg)
    rw [l20_list] at h
    exact h
  · have h := next_any p _ 16 1 _ W (StAt.gr hl hg) hb (hT.gr hg) (by omega)
    rw [l20_next] at h
    exact h
  · have h := back_any p _ 16 1 _ W (StAt.gr hl hg) hb (hT.gr hg) (by omega)
    rw [l20_back] at h
    exact h
set_option maxRecDepth 100000 in
set_option maxHeartbeats 4000000 in
theorem awake_any (w : World) (hT : TabOk w) : Calls Tryd.prog 9 #[] w fun e w' => e = .returned (.bool true) ∧ Gr w w' := by
  have h16 : ∀ w0 : World, HasRow (w0.alloc (.cells #[.int .i64 8, .int .i64 16] 3)) 3 (.slice (some ⟨w0.heap.size, 0, none⟩) 2 2) ([8, 16] : List Nat).length (ncells [8, 16]) := fun w0 => ⟨rfl, .inr ⟨_, 2, _, rfl, heap_alloc_new _ _, by decide, by simp, by simp [ncells]⟩⟩
  go_enter Tryd.func9, Tryd.ntmps9
  go_wp2_with (first
    | (go_at_call 28; (with_reducible refine (new_l 20 _).mono ?_); rintro e w1 ⟨p, hp, rfl, hl1, hg1⟩;
       obtain ⟨hcols, hlist, hnx, hbk⟩ := l20_facts p w1 hl1 (hT.gr hg1); clear hl1)
    | (go_at_call 21; (with_reducible refine (hcols _ ?_).mono ?_); ((repeat (first | with_reducible exact Gr.refl _ | with_reducible assumption | with_reducible refine Gr.setCell ?_ (by simp; try omega) _ | with_reducible refine Gr.alloc ?_ _ | with_reducible refine Gr.drew ?_ | with_reducible refine Gr.drewN ?_ _ | with_reducible refine Gr.trans ?_ (by assumption)))); rintro e w5 ⟨rfl, rfl⟩)
    | (go_at_call 19; (with_reducible refine (hlist _ ?_).mono ?_); ((repeat (first | with_reducible exact Gr.refl _ | with_reducible assumption | with_reducible refine Gr.setCell ?_ (by simp; try omega) _ | with_reducible refine Gr.alloc ?_ _ | with_reducible refine Gr.drew ?_ | with_reducible refine Gr.drewN ?_ _ | with_reducible refine Gr.trans ?_ (by assumption)))); rintro e w6 ⟨va6, cap6, rfl, hown6, hg6⟩)
    | (go_at_call 18; go_loud (refine (same_nums (l := [8, 16]) (HasRow.of_own (ownsRow_gr hown6 ?_)) (h16 _) (by decide)).mono ?_); ((repeat (first | with_reducible exact Gr.refl _ | with_reducible assumption | with_reducible refine Gr.setCell ?_ (by simp; try omega) _ | with_reducible refine Gr.alloc ?_ _ | with_reducible refine Gr.drew ?_ | with_reducible refine Gr.drewN ?_ _ | with_reducible refine Gr.trans ?_ (by assumption)))); rintro e w8 ⟨rfl, hg8⟩)
    | (go_at_call 11; (with_reducible refine (hnx _ ?_).mono ?_); ((repeat (first | with_reducible exact Gr.refl _ | with_reducible assumption | with_reducible refine Gr.setCell ?_ (by simp; try omega) _ | with_reducible refine Gr.alloc ?_ _ | with_reducible refine Gr.drew ?_ | with_reducible refine Gr.drewN ?_ _ | with_reducible refine Gr.trans ?_ (by assumption)))); rintro e w9 ⟨rfl, hg9⟩)
    | (go_at_call 12; (with_reducible refine (hbk _ ?_).mono ?_); ((repeat (first | with_reducible exact Gr.refl _ | with_reducible assumption | with_reducible refine Gr.setCell ?_ (by simp; try omega) _ | with_reducible refine Gr.alloc ?_ _ | with_reducible refine Gr.drew ?_ | with_reducible refine Gr.drewN ?_ _ | with_reducible refine Gr.trans ?_ (by assumption)))); rintro e w10 ⟨rfl, hg10⟩))
  go_ret
  exact ⟨rfl, by (repeat (first | with_reducible exact Gr.refl _ | with_reducible assumption | with_reducible refine Gr.setCell ?_ (by simp; try omega) _ | with_reducible refine Gr.alloc ?_ _ | with_reducible refine Gr.drew ?_ | with_reducible refine Gr.drewN ?_ _ | with_reducible refine Gr.trans ?_ (by assumption)))⟩

end Go.Proofs.YtjdmobildcgidaaDoor
