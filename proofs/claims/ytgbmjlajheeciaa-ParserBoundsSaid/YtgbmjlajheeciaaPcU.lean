/-
  The document's sequence, walked: all ways joined.
-/
import Derived.Test.YtgbmjlajheeciaaPcT
import Derived.Test.YtgbmjlajheeciaaPcR
import Derived.Test.YtgbmjlajheeciaaPcS
namespace Go.Proofs.Ytgbmjlajheeciaa
set_option linter.unusedSimpArgs false
set_option linter.unusedVariables false
open Go.RowKit

theorem rseq_walk {w : World} {a : Option Addr} {n cap at_ : Nat} {l : List Int} (hl : ∀ c ∈ l, 0 ≤ c ∧ c < 256) (hn : n ≤ 80000) (hat : at_ ≤ n) (hr : Rd w a n (bcells l)) :
    Calls Try.prog 23 #[.slice a n cap, .int .i64 (at_ : Int)] w (SeqTo w l at_ (seqR (l.drop at_))) := by
  obtain ⟨he, h1, _⟩ := hdr_props 48 (l.drop at_) fun c hc => hl c (List.mem_of_mem_drop hc)
  rcases he with he | he | he
  · exact rseq_0 hl hn hat hr he
  · obtain ⟨b, c, hbc⟩ := h1 he
    by_cases hb : b = []
    · subst hb
      have hbc' : (hdr 48 (l.drop at_)).bytes = [c] := hbc
      by_cases h0 : opKind c = 0
      · by_cases h92 : c = 92
        · exact rseq_esc hl hn hat hr he hbc (.inr h0) (by simp [h92])
        · exact rseq_tell hl hn hat hr he hbc (.inr h0) (by simp) (.inr h92)
      · by_cases h5 : 5 < opKind c
        · exact rseq_str hl hn hat hr he hbc' h5
        · obtain ⟨m, hm⟩ := hdr_rest_drop 48 l at_
          obtain ⟨he2, h2, _⟩ := hdr_props 64 (l.drop m) fun c hc => hl c (List.mem_of_mem_drop hc)
          rw [← hm] at he2 h2
          rcases he2 with he2 | he2 | he2
          · exact rseq_num0 hl hn hat hr he hbc' ⟨h0, by omega⟩ he2
          · obtain ⟨b2, c2, hbc2⟩ := h2 he2
            by_cases h55 : opKind c = 5
            · exact rseq_num5 hl hn hat hr he hbc' ⟨h0, by omega⟩ ⟨he2, hbc2⟩ h55
            · have hsq : seqR (l.drop at_) = seqR (l.drop at_) := rfl
              cases hg : (parseR (opKind c) b2 c2).2 with
              | true => exact rseq_num4t hl hn hat hr he hbc' ⟨h0, by omega⟩ ⟨he2, hbc2⟩ h55 hg
              | false => exact rseq_num4f hl hn hat hr he hbc' ⟨h0, by omega⟩ ⟨he2, hbc2⟩ h55 hg
          · exact rseq_num2 hl hn hat hr he hbc' ⟨h0, by omega⟩ he2
    · by_cases h3 : b.length ≤ 3
      · exact rseq_tell hl hn hat hr he hbc (.inl hb) h3 (.inl hb)
      · exact rseq_esc hl hn hat hr he hbc (.inl hb) (fun h => h3 h.1)
  · exact rseq_2 hl hn hat hr he
end Go.Proofs.Ytgbmjlajheeciaa
