/-
  A builder of the call's own in a later world; the bytes of an id.
-/
import Derived.Test.YtaeppimldbknhaaZBld
namespace Go.Proofs.Ytaeppimldbknhaa
set_option linter.unusedSimpArgs false
set_option linter.unusedVariables false
open Go.RowKit

theorem Gr.by_ {w w1 : World} (h : Gr w w1) (row : Option Nat) : w.grownBy w1 row := ⟨h.os, h.tape, h.output, h.size, fun i hi _ => h.block i hi⟩
theorem builderAt_gr {T e : TypeId} {B b : Nat} {p : Value} {bs : List Value} {w w1 : World} (h : Lib.BuilderAt T e B b p bs w) (hg : Gr w w1) : Lib.BuilderAt T e B b p bs w1 := by
  obtain ⟨hB, v, hb, ho, hne⟩ := h
  exact ⟨hB, v, hg.blk hb, ho.kept (row := some w.heap.size) (hg.by_ _) (by
    rcases ho.2 with ⟨hv, _⟩ | ⟨g, cap, cur, hv, hgB, hh, _⟩
    · exact .inl (by rw [hv]; rfl)
    · refine .inr ?_
      rw [hv]
      simp only [Value.ownBlock, ne_eq, Option.some.injEq]
      have := (Array.getElem?_eq_some_iff.1 hh).1
      omega), hne⟩
theorem isBuilder_gr {T e : TypeId} {B b : Nat} {bs : List Value} {w w1 : World} (h : Lib.IsBuilder T e B b bs w) (hg : Gr w w1) : Lib.IsBuilder T e B b bs w1 := by
  rcases h with h | h
  · exact .inl (builderAt_gr h hg)
  · exact .inr (builderAt_gr h hg)
end Go.Proofs.Ytaeppimldbknhaa
