/-
  Two rows of tokens that are alike are found alike: the document's Same, and the laws' Are, walked.
  What the parser's laws call besides: Idle, Split, short; a slice that came in, cut and appended.
-/
import Derived.BigQuiet
import Derived.Deep.CutBlock
import Derived.Deep.DeepCutAuto
import Derived.Deep.MidRow
import Derived.Deep.QuietTactic
import Derived.Maps.AppendAt
import Derived.Test.YtfkecgkfcldffaaGreatDoorZPcC
namespace Go.Proofs.YtfkecgkfcldffaaGreatDoor
set_option linter.unusedSimpArgs false
set_option linter.unusedVariables false
open Go.RowKit

theorem HasRow.at_ {w : World} {e n : Nat} {v : Value} {xs : List Value} (h : HasRow w e v n xs) {k : Nat} (hk : k < n) : ∃ g cap u, v = .slice (some ⟨g, 0, none⟩) n cap ∧ xs[k]? = some u ∧ w.cell? ⟨g, k, none⟩ = some u := by
  have hl := h.1
  rcases h.2 with ⟨_, h0⟩ | ⟨g, cap, cur, hv, hh, hn, hc, ht⟩
  · omega
  · have hu : xs[k]? = some xs[k] := List.getElem?_eq_getElem (by omega)
    exact ⟨g, cap, _, hv, hu, h.cells (g := g) (by rw [hv]; rfl) k _ hu⟩
end Go.Proofs.YtfkecgkfcldffaaGreatDoor

namespace Go.Proofs.YtfkecgkfcldffaaGreatDoor
set_option linter.unusedSimpArgs false
set_option linter.unusedVariables false
open Go.RowKit

/-! ### The tokens' numbers are few -/
/-! ### Blocks of a call's own -/
/-- A slice that is cut. -/
theorem Rd.cut {w : World} {a : Option Addr} {n : Nat} {xs : List Value} (h : Rd w a n xs) {lo hi : Nat} (h1 : lo ≤ hi) (h2 : hi ≤ n) (b : Bool) (hb : b = true → hi - lo = 0) : Rd w (if b = true then a else a.map (·.add lo)) (hi - lo) ((xs.drop lo).take (hi - lo)) := by
  refine ⟨by simp [h.1]; omega, ?_⟩
  rcases Nat.eq_zero_or_pos (hi - lo) with h0 | h0
  · exact .inl h0
  · refine .inr ?_
    have hbf : ¬ b = true := fun e => by have := hb e; omega
    rw [if_neg hbf]
    rcases h.2 with hn | ⟨g, off, rfl, hc⟩
    · omega
    · refine ⟨g, off + lo, by simp only [Option.map_some]; rcases lo with _ | j <;> simp [Addr.add], fun i u hi' => ?_⟩
      rw [List.getElem?_take] at hi'
      split at hi'
      · rw [List.getElem?_drop] at hi'
        rw [Nat.add_assoc]
        exact hc _ u hi'
      · cases hi'
/-- What was there is in no new block. -/
theorem Rd.out {w : World} {a : Option Addr} {n : Nat} {xs : List Value} (h : Rd w a n xs) (h0 : 0 < n) {k : Nat} (hk : w.heap.size ≤ k) : Out [k] a := by
  obtain ⟨b, off, u, rfl, _, _, hb⟩ := h.at_ h0
  intro x hx hm
  injection hx with hx
  subst hx
  simp at hm; omega
theorem cut_to {P : Program} {t : TypeId} (ht : P.underlying t = some (.slice (P.elem t))) (hs : ∀ w : World, (sizeOf (P.elem t)).run P w = .ok 1 w) (a : Option Addr) (n cap k : Nat) (hk : k ≤ n) (hn : n ≤ cap) :
    ∃ a', (∀ w, (Instr.slice t (.slice a n cap) none (some (.int .i64 k)) none).run P w = .ok (.slice a' k cap) w) ∧ ∀ w xs, Rd w a n xs → Rd w a' k (xs.take k) := by
  refine ⟨if cap = 0 then a else a.map (·.add 0), fun w => ?_, fun w xs h => ?_⟩
  · rw [run_slice_h w t a n cap ht .i64 k (by omega) (by omega), hs]
    simp [Result.andThen, sliced]
  · have := h.cut (lo := 0) (hi := k) (by omega) hk (decide (cap = 0)) (fun e => by have := of_decide_eq_true e; omega)
    simpa using this
/-! ### The calls -/
end Go.Proofs.YtfkecgkfcldffaaGreatDoor
