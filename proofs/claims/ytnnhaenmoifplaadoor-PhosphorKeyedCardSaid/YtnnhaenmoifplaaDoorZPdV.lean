/-
  The law that every token that a stream says can be, walked.
-/
import Derived.Test.YtnnhaenmoifplaaDoorZPdI
import Derived.Test.YtnnhaenmoifplaaDoorZPdU
namespace Go.Proofs.YtnnhaenmoifplaaDoor
set_option linter.unusedSimpArgs false
set_option linter.unusedVariables false
open Go.RowKit

theorem check_can {w : World} {t : Tok} {q : Value × Value} (hc : Can t) (h : RTok w t q) : Calls Tryd.prog 48 #[.agg (tcells t q).toArray] w fun e w' => e = .returned (.int .i64 0) ∧ Gr w w' := by
  obtain ⟨qp, qd⟩ := q
  obtain ⟨a1, c1, hv1⟩ := h.params.form
  obtain ⟨a2, c2, hv2⟩ := h.data.form
  simp only at hv1 hv2
  subst hv1; subst hv2
  cases hc with
  | print c hh =>
    exact check_1 (l := []) (d := []) intsOk_nil ⟨by simp, by simp⟩ (.inl rfl) rfl h.data (fun w' hg => great_false (ps := []) (l := []) (d := []) ⟨by simp, by simp⟩ intsOk_nil (by simp) (h.params.gr hg) (h.data.gr hg)) (fun w' hg => code_print c 0 _ _ _ _ _ _ _ _ (hh.imp id fun x => x.1)) rfl rfl rfl rfl rfl
  | ctrl c hh =>
    exact check_2 (l := []) (d := []) intsOk_nil ⟨by simp, by simp⟩ (.inl rfl) rfl h.data (fun w' hg => great_false (ps := []) (l := []) (d := []) ⟨by simp, by simp⟩ intsOk_nil (by simp) (h.params.gr hg) (h.data.gr hg)) (fun w' hg => code_ctrl c 0 _ _ _ _ _ _ _ _ hh) rfl rfl rfl rfl rfl
  | esc c l hh hl hx =>
    refine check_3 (l := l) (d := []) hl ⟨by simp, by simp⟩ (.inl rfl) rfl h.data (fun w' hg => great_false (ps := []) (l := l) (d := []) ⟨by simp, by simp⟩ hl (by simp) (h.params.gr hg) (h.data.gr hg)) (fun w' hg => ?_) rfl rfl rfl rfl
    by_cases hl0 : l = []
    · subst hl0
      exact code_esc_none c 0 _ _ _ _ _ _ _ hh (hx rfl).1 (hx rfl).2
    · exact code_esc_some c 0 _ _ _ _ _ _ _ (strOf_ne hl0) _ hh
  | csi c m ps l hh hm hp hl =>
    exact check_4 (l := l) (d := []) hl ⟨by simp, by simp⟩ hm rfl h.data (fun w' hg => great_false (ps := ps) (l := l) (d := []) hp hl (by simp) (h.params.gr hg) (h.data.gr hg)) (fun w' hg => code_long 4 c m (.inl rfl) _ _ _ _ _ _ _ _ hh) rfl rfl
  | dcs c m ps l d hh hm hp hl hd =>
    exact check_5 (l := l) (d := d) hl hd hm rfl h.data (fun w' hg => great_false (ps := ps) (l := l) (d := d) hp hl hd.1 (h.params.gr hg) (h.data.gr hg)) (fun w' hg => code_long 5 c m (.inr rfl) _ _ _ _ _ _ _ _ hh)
  | str k d hk hd =>
    have hg0 := fun w' (hg : Gr w w') => great_false (k := k) (c := 0) (m := 0) (ps := []) (l := []) (d := d) ⟨by simp, by simp⟩ intsOk_nil hd.1 (h.params.gr hg) (h.data.gr hg)
    have hc0 := fun w' (_ : Gr w w') => code_str k 0 hk a1 a2 0 c1 d.length c2 (strOf []) w'
    rcases (by omega : k = 6 ∨ k = 7 ∨ k = 8 ∨ k = 9) with rfl | rfl | rfl | rfl
    · exact check_6 (l := []) (d := d) intsOk_nil hd (.inl rfl) rfl h.data hg0 hc0 rfl rfl rfl
    · exact check_7 (l := []) (d := d) intsOk_nil hd (.inl rfl) rfl h.data hg0 hc0 rfl rfl rfl
    · exact check_8 (l := []) (d := d) intsOk_nil hd (.inl rfl) rfl h.data hg0 hc0 rfl rfl rfl
    · exact check_9 (l := []) (d := d) intsOk_nil hd (.inl rfl) rfl h.data hg0 hc0 rfl rfl rfl

end Go.Proofs.YtnnhaenmoifplaaDoor
