/-
  What a parser can be, it is behind every byte.
-/
import Derived.Test.YtgbmjlajheeciaaPaS
namespace Go.Proofs.Ytgbmjlajheeciaa
set_option linter.unusedSimpArgs false
set_option linter.unusedVariables false
open Go.RowKit

theorem ok_init : PS.init.ok := by constructor <;> simp [PS.init]
theorem ok_begin (a k : Int) (ha : 0 ≤ a ∧ a ≤ 4) (hk : 0 ≤ k ∧ k ≤ 9) : (PS.begin_ a k).ok := by constructor <;> simp [PS.begin_] <;> omega
theorem ok_inter {s : PS} (h : s.ok) (c : Int) : (interM s c).ok := by
  refine ⟨h.phase, h.kind, h.code, h.mark, ?_, h.data, h.done, h.now⟩
  have := h.inters
  simp only [interM]
  split
  · exact this
  · rename_i hv
    simp at hv
    simp; omega
theorem ok_acc {s : PS} (h : s.ok) (c : Int) (hc : isAcc c = true) : (accByte s c).ok := by
  have := h.done
  have hn := h.now
  simp only [isAcc, Bool.or_eq_true, decide_eq_true_eq, Bool.and_eq_true] at hc
  unfold accByte
  split
  · refine ⟨h.phase, h.kind, h.code, h.mark, h.inters, h.data, ?_, by simp⟩
    dsimp only
    split
    · simp; omega
    · exact this
  · exact ⟨h.phase, h.kind, h.code, h.mark, h.inters, h.data, this, by simp; omega⟩
theorem opKind_le (c : Int) : 0 ≤ opKind c ∧ opKind c ≤ 9 := by
  simp only [opKind]
  repeat' split
  all_goals omega
theorem opAt_le (c : Int) : 0 ≤ opAt c ∧ opAt c ≤ 4 := by
  simp only [opAt]
  repeat' split
  all_goals omega
theorem ok_escaped {s : PS} (h : s.ok) (c : Int) : (escapedM s c).1.ok := by
  simp only [escapedM]
  split
  · exact ok_inter h c
  split
  · exact ok_init
  split
  · exact ok_begin _ _ (opAt_le c) (opKind_le c)
  split <;> exact ok_init
theorem ok_first {s : PS} (h : s.ok) (b : Bool) : ({ s with first := b } : PS).ok := ⟨h.phase, h.kind, h.code, h.mark, h.inters, h.data, h.done, h.now⟩
theorem ok_void {s : PS} (h : s.ok) (b : Bool) : ({ s with void := b } : PS).ok := ⟨h.phase, h.kind, h.code, h.mark, h.inters, h.data, h.done, h.now⟩
theorem ok_code {s : PS} (h : s.ok) (c : Int) (hc : 0 ≤ c ∧ c < 256) : ({ s with code := c } : PS).ok := ⟨h.phase, h.kind, hc, h.mark, h.inters, h.data, h.done, h.now⟩
theorem ok_mark {s : PS} (h : s.ok) (c : Int) (hc : 0 ≤ c ∧ c < 256) : ({ s with mark := c } : PS).ok := ⟨h.phase, h.kind, h.code, hc, h.inters, h.data, h.done, h.now⟩
theorem ok_phase {s : PS} (h : s.ok) (c : Int) (hc : 0 ≤ c ∧ c ≤ 4) : ({ s with phase := c } : PS).ok := ⟨hc, h.kind, h.code, h.mark, h.inters, h.data, h.done, h.now⟩
theorem ok_header {s : PS} (h : s.ok) (c : Int) (hc : 0 ≤ c ∧ c < 256) : (headerM s c).1.ok := by
  have h1 := ok_first h false
  simp only [headerM]
  split
  · exact ok_inter h1 c
  split
  · split
    · exact ok_init
    · exact ok_phase (ok_code h1 c hc) 3 (by omega)
  split
  · exact ok_mark h1 c hc
  split
  · exact ok_void h1 true
  · rename_i hn
    refine ok_acc h1 c ?_
    cases hb : isAcc c with
    | true => rfl
    | false => exact absurd (.inr (.inr hb)) hn
theorem ok_text {s : PS} (h : s.ok) (c : Int) : (textM s c).ok := by
  have := h.data
  simp only [textM]
  split
  · exact ⟨h.phase, h.kind, h.code, h.mark, h.inters, by simp, h.done, h.now⟩
  · rename_i hn
    refine ⟨h.phase, h.kind, h.code, h.mark, h.inters, ?_, h.done, h.now⟩
    simp at hn ⊢; omega
theorem ok_step {s : PS} (h : s.ok) (c : Int) (hc : 0 ≤ c ∧ c < 256) : (stepM s c).1.ok := by
  simp only [stepM]
  split
  · split
    · exact h
    · exact ok_escaped h _
  split
  · split
    · exact h
    · exact ok_header h _ (by omega)
  split
  · exact ok_text h c
  · exact h
theorem ok_take1 {s : PS} (h : s.ok) (c : Int) (hc : 0 ≤ c ∧ c < 256) : (takeM1 s c).1.ok := by
  simp only [takeM1]
  split
  · split
    · exact ok_phase h 4 (by omega)
    · exact ok_begin _ _ (by omega) (by omega)
  split
  · exact ok_init
  split
  · exact ok_init
  split
  · exact ok_step h c hc
  split
  · exact h
  split
  · exact ok_init
  split
  · exact ok_step h c hc
  · exact h
theorem ok_take {s : PS} (h : s.ok) (c : Int) (hc : 0 ≤ c ∧ c < 256) : (takeM s c).1.ok := by
  simp only [takeM]
  split
  · split
    · exact ok_init
    · exact ok_take1 (ok_begin _ _ (by omega) (by omega)) c hc
  · exact ok_take1 h c hc
/-- Of a byte comes one token at most. -/
theorem emit_le (s : PS) : (emit s).length ≤ 1 := by unfold emit; split <;> simp
end Go.Proofs.Ytgbmjlajheeciaa
