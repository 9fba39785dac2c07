/-
  The document's reading of a whole stream, walked.
-/
import Derived.Test.YtgbmjlajheeciaaPcQ
namespace Go.Proofs.Ytgbmjlajheeciaa
set_option linter.unusedSimpArgs false
set_option linter.unusedVariables false
open Go.RowKit

/-- What is told of a stream so far. -/
def SplitPos (P : List Int) (i : Nat) (ts : List Tok) : Prop := ∃ f, (P.drop i).length ≤ f ∧ splitR P.length P = (ts ++ (splitR f (P.drop i)).1, (splitR f (P.drop i)).2)
theorem SplitPos.start (P : List Int) : SplitPos P 0 [] := ⟨P.length, by simp, by simp⟩
theorem SplitPos.end {P : List Int} {i : Nat} {ts : List Tok} (h : SplitPos P i ts) (hi : P.length ≤ i) : splitR P.length P = (ts, false) := by
  obtain ⟨f, _, h⟩ := h
  rw [h, List.drop_eq_nil_of_le hi]
  cases f <;> simp [splitR]
theorem SplitPos.byte {P : List Int} {i : Nat} {ts : List Tok} {c : Int} (h : SplitPos P i ts) (hc : P[i]? = some c) (h27 : c ≠ 27) : SplitPos P (i + 1) (ts ++ (if 32 ≤ c then [printT c] else if c ≠ 24 then [ctrlT c] else [])) := by
  obtain ⟨f, hf, h⟩ := h
  rw [drop_cons hc] at hf h
  simp only [List.length_cons] at hf
  obtain ⟨f, rfl⟩ : ∃ g, f = g + 1 := ⟨f - 1, by omega⟩
  refine ⟨f, by omega, ?_⟩
  rw [h]
  simp only [splitR, if_neg h27, List.append_assoc]
theorem SplitPos.stop {P : List Int} {i : Nat} {ts : List Tok} (h : SplitPos P i ts) (hc : P[i]? = some 27) (hs : (seqR (P.drop (i + 1))).2 = none) : splitR P.length P = (ts ++ (seqR (P.drop (i + 1))).1, true) := by
  obtain ⟨f, hf, h⟩ := h
  rw [drop_cons hc] at hf h
  simp only [List.length_cons] at hf
  obtain ⟨f, rfl⟩ : ∃ g, f = g + 1 := ⟨f - 1, by omega⟩
  rw [h]
  have e : seqR (P.drop (i + 1)) = ((seqR (P.drop (i + 1))).1, none) := by rw [← hs]
  simp only [splitR, if_true]
  rw [e]
theorem SplitPos.seq {P : List Int} {i n : Nat} {ts : List Tok} (h : SplitPos P i ts) (hc : P[i]? = some 27) (hs : (seqR (P.drop (i + 1))).2 = some (P.drop n)) (hn : i + 1 ≤ n) : SplitPos P n (ts ++ (seqR (P.drop (i + 1))).1) := by
  obtain ⟨f, hf, h⟩ := h
  rw [drop_cons hc] at hf h
  simp only [List.length_cons] at hf
  obtain ⟨f, rfl⟩ : ∃ g, f = g + 1 := ⟨f - 1, by omega⟩
  refine ⟨f, ?_, ?_⟩
  · rw [List.length_drop] at hf ⊢; omega
  rw [h]
  have e : seqR (P.drop (i + 1)) = ((seqR (P.drop (i + 1))).1, some (P.drop n)) := by rw [← hs]
  simp only [splitR, if_true]
  rw [e]
  simp
end Go.Proofs.Ytgbmjlajheeciaa
