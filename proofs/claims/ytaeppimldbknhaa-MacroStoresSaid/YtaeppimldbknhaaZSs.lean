/-
  What a walk is told of a slice of structs that came in, each of fields of one cell; a law over any program.
-/
import Derived.ChangeSame
import Derived.Deep.Fields
import Derived.Deep.Slices
import Derived.OpenShut
import Derived.Test.YtaeppimldbknhaaZLw4
namespace Go.Proofs.Ytaeppimldbknhaa
set_option linter.unusedSimpArgs false
set_option linter.unusedVariables false
open Go.ChangeShapes Go.WideShapes Go.Deep Go.RowKit

/-- A slice of structs of n fields that came in: of each element each field is told by F. -/
def IsStructs (w : World) (a : Option Addr) (len n : Nat) (F : Nat → Value → Prop) : Prop :=
  len ≤ maxLen ∧ (len = 0 ∨ ∃ b off, a = some ⟨b, off, none⟩ ∧ b < w.heap.size ∧ ∀ i j, i < len → j < n → ∃ v, w.cell? ⟨b, off + (i * n + j), none⟩ = some v ∧ F j v)

section
variable {H : Type} {enc : TypeId × Value → H} {P : Program} {w : World} {base : Nat} {spare : Nat → Bool} {held : Bool}
theorem field_int {t : TypeId} {k : IntKind} {n : Nat} {v : Value} {y : DataW H × List MemPlace} (ht : P.underlying t = some (.int k)) (h : DataW.trod enc P w base spare held n t [v] = some y) : ∃ z, v = .int k z ∧ (Lit.int k z).wf = true := by
  obtain ⟨z, e, _, hw⟩ := DataW.trod_int ht h
  simp at e
  exact ⟨z, e, hw⟩
theorem field_bool {t : TypeId} {n : Nat} {v : Value} {y : DataW H × List MemPlace} (ht : P.underlying t = some .bool) (h : DataW.trod enc P w base spare held n t [v] = some y) : ∃ z, v = .bool z := by
  obtain ⟨z, e, _⟩ := DataW.trod_bool ht h
  simp at e
  exact ⟨z, e⟩
theorem field_string {t : TypeId} {n : Nat} {v : Value} {y : DataW H × List MemPlace} (ht : P.underlying t = some .string) (h : DataW.trod enc P w base spare held n t [v] = some y) : ∃ z : ByteArray, v = .string z ∧ z.size ≤ maxLen := by
  obtain ⟨z, e, _, hw⟩ := DataW.trod_string ht h
  simp at e
  exact ⟨z, e, hw⟩

theorem open_structs {t e : TypeId} {fs : Array Field} {fuel : Nat} {cs : List Value} {x : DataW H × List MemPlace} (ht : P.underlying t = some (.slice e)) (he : P.underlying e = some (.struct fs))
    (hone : oneCellFields P fs = true) (hC : P.cellsOf e = fs.size) (hpos : 0 < fs.size) (F : Nat → Value → Prop)
    (hF : ∀ (j : Nat) (f : Field) (v : Value) (n : Nat) (y : DataW H × List MemPlace), fs[j]? = some f → DataW.trod enc P w base spare held n f.type [v] = some y → F j v)
    {a : Option Addr} {len cap : Nat} (hcs : cs = [.slice a len cap]) (h : DataW.trod enc P w base spare held fuel t cs = some x) :
    IsStructs w a len fs.size F := by
  rcases open_slice ht h with ⟨h0, _⟩ | ⟨x, len', cap', m, n, D, Pl, hcs', hb, hl, hm, hmm, hx, hi⟩
  · rw [hcs] at h0; injection h0 with h0; injection h0 with h1 h2 h3
    exact ⟨by omega, .inl h2⟩
  · rw [hcs] at hcs'; injection hcs' with h0; injection h0 with h1 h2 h3
    subst h1; subst h2; subst h3
    refine ⟨by omega, ?_⟩
    by_cases hz : len = 0
    · exact .inl hz
    right
    have key : ∀ i j, i < len → j < fs.size → ∃ v, w.cell? (x.add (i * fs.size + j)) = some v ∧ F j v := by
      intro i j hil hj
      obtain ⟨cs', hc, ht'⟩ := hi i (by split at hmm <;> omega)
      rw [hC] at hc
      obtain ⟨ys, n', hn', hy, hlen, hyl, hf⟩ := DataW.trod_struct he ht'
      obtain ⟨_, hcl, hat⟩ := World.cells?_some hc
      obtain ⟨ho, hk⟩ := hone_of hone j fs[j] (Array.getElem?_eq_getElem hj)
      have hcell := hat j hj
      have hv : cs'[j]? = some (cs'[j]'(by omega)) := List.getElem?_eq_getElem (by omega)
      have h1 := hf j fs[j] (Array.getElem?_eq_getElem hj)
      rw [ho, hk] at h1
      have hone' : (cs'.drop j).take 1 = [cs'[j]'(by omega)] := by
        rw [List.drop_eq_getElem_cons (by omega)]
        rfl
      rw [hone'] at h1
      have hys : ys[j]? = some (ys[j]'(by omega)) := List.getElem?_eq_getElem (by omega)
      exact ⟨_, by rw [← Go.Deep.add_add, hcell, hv], hF j fs[j] _ n' _ (Array.getElem?_eq_getElem hj) (h1.trans hys)⟩
    obtain ⟨b, off, s⟩ := x
    obtain ⟨v0, h0, _⟩ := key 0 0 (by omega) hpos
    have hs : s = none := by
      cases s with
      | none => rfl
      | some y =>
        have : (⟨b, off, some y⟩ : Addr).add (0 * fs.size + 0) = ⟨b, off, some y⟩ := by unfold Addr.add; simp
        rw [this] at h0
        unfold World.cell? at h0
        split at h0 <;> simp at h0
    subst hs
    have hA : ∀ k, (⟨b, off, none⟩ : Addr).add k = ⟨b, off + k, none⟩ := by
      intro k; by_cases hk : k = 0
      · subst hk; simp [Addr.add]
      · simp [Addr.add, hk]
    refine ⟨b, off, rfl, ?_, fun i j h1 h2 => ?_⟩
    · rw [hA] at h0; exact lt_of_cell h0
    · have := key i j h1 h2; rw [hA] at this; exact this
end
theorem IsStructs.gr {w w' : World} {a : Option Addr} {len n : Nat} {F : Nat → Value → Prop} (h : IsStructs w a len n F) (hg : Gr w w') : IsStructs w' a len n F := by
  refine ⟨h.1, h.2.imp id ?_⟩
  rintro ⟨b, off, e, hb, hc⟩
  refine ⟨b, off, e, hg.lt1 _ hb, fun i j hi hj => ?_⟩
  obtain ⟨v, hv, hF⟩ := hc i j hi hj
  exact ⟨v, hg.cellAt hv, hF⟩
end Go.Proofs.Ytaeppimldbknhaa
