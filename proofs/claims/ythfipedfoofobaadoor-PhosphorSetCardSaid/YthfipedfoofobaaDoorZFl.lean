/-
  From a row's listed variables to the tables that contracts ask for: laws over any program.
  Values of flat types that come in: their cells, one by one.
-/
import Derived.ChangeArms
import Derived.LaidMore
import Derived.Lib.LaidTab
import Derived.OpenShut
import Derived.WideShapes
import Derived.Test.YthfipedfoofobaaDoorZLw4
namespace Go.Proofs.YthfipedfoofobaaDoor
set_option linter.unusedSimpArgs false
set_option linter.unusedVariables false
open Go.RowKit

theorem laidMet_tail2 {P : Program} {W : World} {x : String × DataW Unit} {l : List (String × DataW Unit)} (h : laidMet P (x :: l) W) : laidMet P l W := by
  obtain ⟨n, d⟩ := x
  obtain ⟨ps, ⟨g, t, cs, f, p, q, _, _, _, _, hr, rfl⟩, hn, hc⟩ := h
  exact ⟨q, hr, (List.nodup_append.1 hn).2.1, fun b off hm => hc b off (List.mem_append.2 (.inr hm))⟩
theorem tabIs_head2 {P : Program} {W : World} {name : String} {k : IntKind} {zs : List Int} {D : DataW Unit} {rest : List (String × DataW Unit)} {g : Nat} {t e : TypeId} {n : Nat} (hD : D = Lib.tabData k zs)
    (hg : P.globalNamed name = some g) (hty : (P.globals[g]?).map (·.type) = some t) (ht : P.underlying t = some (.array n e)) (he : P.underlying e = some (.int k)) (hce : P.cellsOf e = 1) (hct : P.cellsOf t = n)
    (h : laidMet P ((name, D) :: rest) W) : Lib.TabIs P W name k zs := by
  subst hD; exact Lib.tabIs_of_head hg hty ht he hce hct h
theorem tabIs_gr {P : Program} {w w' : World} {name : String} {k : IntKind} {zs : List Int} {g : Nat} (hg : P.globalNamed name = some g) (hz : zs ≠ []) (h : Lib.TabIs P w name k zs) (hb : Gr w w') : Lib.TabIs P w' name k zs := by
  have h0 := h.cell hg 0 (List.length_pos_iff.2 hz)
  have hl := lt_of_cell h0
  unfold Lib.TabIs World.var? at h ⊢
  rw [hg] at h ⊢
  simp only [Option.bind_eq_bind, Option.bind_some] at h ⊢
  rw [hb.block g hl]
  exact h
end Go.Proofs.YthfipedfoofobaaDoor

namespace Go.Proofs.YthfipedfoofobaaDoor
set_option linter.unusedSimpArgs false
set_option linter.unusedVariables false
open Go.ChangeShapes Go.WideShapes Go.RowKit
set_option linter.unusedVariables false

/-- What a cell of a value of a flat type is: a number of a kind, or a yes or no. -/
def kindAt (P : Program) : Nat → TypeId → Nat → Option (Option IntKind)
  | 0, _, _ => none
  | d + 1, t, i =>
    match P.underlying t with
    | some .bool => if i = 0 then some none else none
    | some (.int k) => if i = 0 then some (some k) else none
    | some (.array n e) => if i < n * P.cellsOf e then kindAt P d e (i % P.cellsOf e) else none
    | some (.struct fs) => (fs.toList.find? fun f => Nat.ble f.offset i && Nat.blt i (f.offset + P.cellsOf f.type)).bind fun f => kindAt P d f.type (i - f.offset)
    | _ => none
def okK : Option IntKind → Value → Prop
  | some k, v => ∃ n, v = .int k n ∧ (Lit.int k n).wf = true
  | none, v => ∃ b, v = .bool b
theorem sub_get {cs : List Value} {a n i : Nat} {v : Value} (h : ((cs.drop a).take n)[i]? = some v) : cs[a + i]? = some v := by
  rw [List.getElem?_take] at h
  split at h
  · rwa [List.getElem?_drop] at h
  · cases h
theorem flat_at {H : Type} {enc : TypeId × Value → H} {P : Program} {w : World} {base : Nat} {spare : Nat → Bool} {held : Bool} : ∀ (d : Nat) (t : TypeId) (i : Nat) (K : Option IntKind) (fuel : Nat) (cs : List Value) (x : DataW H × List MemPlace),
    kindAt P d t i = some K → DataW.trod enc P w base spare held fuel t cs = some x → ∃ v, cs[i]? = some v ∧ okK K v
  | 0, _, _, _, _, _, _, h, _ => by simp [kindAt] at h
  | d + 1, t, i, K, fuel, cs, x, h, hx => by
    unfold kindAt at h
    split at h
    · rename_i hu
      split at h
      · rename_i h0
        subst h0
        injection h with h
        subst h
        obtain ⟨b, rfl, _⟩ := DataW.trod_bool hu hx
        exact ⟨_, rfl, b, rfl⟩
      · cases h
    · rename_i k hu
      split at h
      · rename_i h0
        subst h0
        injection h with h
        subst h
        obtain ⟨n, rfl, _, hw⟩ := DataW.trod_int hu hx
        exact ⟨_, rfl, n, rfl, hw⟩
      · cases h
    · rename_i n e hu
      split at h
      · rename_i hi
        obtain ⟨xs, m, _, _, _, hl, hg⟩ := DataW.trod_array hu hx
        have hc : 0 < P.cellsOf e := by
          rcases Nat.eq_zero_or_pos (P.cellsOf e) with h0 | h0
          · rw [h0, Nat.mul_zero] at hi; omega
          · exact h0
        have hq : i / P.cellsOf e < n := Nat.div_lt_of_lt_mul (by rw [Nat.mul_comm]; exact hi)
        have h1 := hg _ hq
        rw [List.getElem?_eq_getElem (by omega)] at h1
        obtain ⟨v, hv, hk⟩ := flat_at d e _ K m _ _ h h1
        refine ⟨v, ?_, hk⟩
        have := sub_get hv
        rwa [Nat.div_add_mod' i (P.cellsOf e)] at this
      · cases h
    · rename_i fs hu
      rw [Option.bind_eq_some_iff] at h
      obtain ⟨f, hf, h⟩ := h
      have h1 := List.find?_some hf
      rw [Bool.and_eq_true, Nat.ble_eq, Nat.blt_eq] at h1
      have hm := List.mem_of_find?_eq_some hf
      obtain ⟨j, hj, hjf⟩ := List.getElem_of_mem hm
      obtain ⟨xs, m, _, _, _, hl, hg⟩ := DataW.trod_struct hu hx
      have h2 := hg j f (by rw [← hjf]; simp at hj ⊢)
      have hj' : j < fs.size := by simpa using hj
      rw [List.getElem?_eq_getElem (by omega)] at h2
      obtain ⟨v, hv, hk⟩ := flat_at d f.type _ K m _ _ h h2
      refine ⟨v, ?_, hk⟩
      have := sub_get hv
      rwa [Nat.add_sub_cancel' h1.1] at this
    · cases h
end Go.Proofs.YthfipedfoofobaaDoor
