/-
  From a row's listed variables to the tables that contracts ask for: laws over any program.
-/
import Derived.LaidMore
import Derived.Lib.LaidTab
import Derived.Test.YtfkecgkfcldffaaGreatDoorZLw4
namespace Go.Proofs.YtfkecgkfcldffaaGreatDoor
set_option linter.unusedSimpArgs false
set_option linter.unusedVariables false
open Go.RowKit

theorem laidMet_tail2 {P : Program} {W : World} {x : String × DataW Unit} {l : List (String × DataW Unit)} (h : laidMet P (x :: l) W) : laidMet P l W := by
  obtain ⟨n, d⟩ := x
  obtain ⟨ps, ⟨g, t, cs, f, p, q, _, _, _, _, hr, rfl⟩, hn, hc⟩ := h
  exact ⟨q, hr, (List.nodup_append.1 hn).2.1, fun b off hm => hc b off (List.mem_append.2 (.inr hm))⟩
theorem tabIs_head2 {P : Program} {W : World} {name : String} {k : IntKind} {zs : List Int} {D : DataW Unit} {rest : List (String × DataW Unit)} {g : Nat} {t e : TypeId} {n : Nat} (hD : D = Lib.tabData k zs)
    (hg : P.globalNamed name = some g) (hty : (P.globals[g]?).map (·.type) = some t) (ht : P.underlying t = some (.array n e)) (he : P.underlying e = some (.int k)) (hce : P.cellsOf e = 1) (hct : P.cellsOf t = n)
    (h : laidMet P ((name, D) :: rest) W) : Lib.TabIs P W name k zs := by
  subst hD; exact Lib.tabIs_of_head hg hty ht he hce hct h
theorem tabIs_gr {P : Program} {w w' : World} {name : String} {k : IntKind} {zs : List Int} {g : Nat} (hg : P.globalNamed name = some g) (hz : zs ≠ []) (h : Lib.TabIs P w name k zs) (hb : Gr w w') : Lib.TabIs P w' name k zs := by
  have h0 := h.cell hg 0 (List.length_pos_iff.2 hz)
  have hl := lt_of_cell h0
  unfold Lib.TabIs World.var? at h ⊢
  rw [hg] at h ⊢
  simp only [Option.bind_eq_bind, Option.bind_some] at h ⊢
  rw [hb.block g hl]
  exact h
end Go.Proofs.YtfkecgkfcldffaaGreatDoor
