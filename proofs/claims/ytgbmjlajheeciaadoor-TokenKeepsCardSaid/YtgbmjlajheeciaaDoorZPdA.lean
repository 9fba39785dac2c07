/-
  Two rows of tokens that are alike are found alike: the document's Same, and the laws' Are, walked.
-/
import Derived.BigQuiet
import Derived.Deep.MidRow
import Derived.Deep.QuietTactic
import Derived.Maps.AppendAt
import Derived.Test.YtgbmjlajheeciaaDoorZPcI
namespace Go.Proofs.YtgbmjlajheeciaaDoor
set_option linter.unusedSimpArgs false
set_option linter.unusedVariables false
open Go.RowKit

theorem HasRow.at_ {w : World} {e n : Nat} {v : Value} {xs : List Value} (h : HasRow w e v n xs) {k : Nat} (hk : k < n) : ∃ g cap u, v = .slice (some ⟨g, 0, none⟩) n cap ∧ xs[k]? = some u ∧ w.cell? ⟨g, k, none⟩ = some u := by
  have hl := h.1
  rcases h.2 with ⟨_, h0⟩ | ⟨g, cap, cur, hv, hh, hn, hc, ht⟩
  · omega
  · have hu : xs[k]? = some xs[k] := List.getElem?_eq_getElem (by omega)
    exact ⟨g, cap, _, hv, hu, h.cells (g := g) (by rw [hv]; rfl) k _ hu⟩
theorem icells_at {l : List Int} {k : Nat} {u : Value} (h : (icells l)[k]? = some u) : u = .int .i64 (l.getD k 0) := by
  simp only [icells, List.getElem?_map] at h
  rcases hx : l[k]? with _ | x
  · rw [hx] at h; cases h
  · rw [hx] at h; simp at h; simp [List.getD, hx, h]

set_option maxHeartbeats 1000000 in
/-- A token is told as the document has it. -/
theorem told_any (t : Tok) (pa da : Option Addr) (pn pc dn dc : Nat) (w : World) : Calls Tryd.prog 13 #[.agg (tcells t (.slice pa pn pc, .slice da dn dc)).toArray] w fun e w' => e = .returned (.agg (tcells t (.slice pa pn pc, .slice da dn dc)).toArray) ∧ Gr w w' := by
  simp only [tcells]
  go_enter Tryd.func13, Tryd.ntmps13
  go_wp2
  refine bodyPost_ret (v := .agg (tcells t (.slice pa pn pc, .slice da dn dc)).toArray) (by simp [results, Tryd.results13, go_sem, tcells]) rfl ⟨rfl, ?_⟩
  (repeat (first | with_reducible (refine Gr.setCell ?_ ?hp _; case hp => (simp; try omega)) | with_reducible refine Gr.alloc ?_ _ | with_reducible refine Gr.drew ?_ | with_reducible refine Gr.drewN ?_ _ | with_reducible assumption | with_reducible exact Gr.refl _ | with_reducible refine Gr.trans ?_ (by assumption)))

end Go.Proofs.YtgbmjlajheeciaaDoor
