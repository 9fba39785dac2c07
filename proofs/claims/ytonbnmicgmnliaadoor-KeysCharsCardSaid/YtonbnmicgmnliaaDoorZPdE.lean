/-
  Two rows of tokens that are alike are found alike: the document's Same, and the laws' Are, walked.
  What the parser's laws call besides: Idle, Split, short; a slice that came in, cut and appended.
  The law that a stream's tokens are those that the document says, walked.
-/
import Derived.BigQuiet
import Derived.Deep.MidRow
import Derived.Deep.QuietTactic
import Derived.Lib.SlBytesConst
import Derived.Maps.AppendAt
import Derived.Test.YtonbnmicgmnliaaDoorZPcI
import Derived.Test.YtonbnmicgmnliaaDoorZPcQ
namespace Go.Proofs.YtonbnmicgmnliaaDoor
set_option linter.unusedSimpArgs false
set_option linter.unusedVariables false
open Go.RowKit

theorem HasRow.at_ {w : World} {e n : Nat} {v : Value} {xs : List Value} (h : HasRow w e v n xs) {k : Nat} (hk : k < n) : ∃ g cap u, v = .slice (some ⟨g, 0, none⟩) n cap ∧ xs[k]? = some u ∧ w.cell? ⟨g, k, none⟩ = some u := by
  have hl := h.1
  rcases h.2 with ⟨_, h0⟩ | ⟨g, cap, cur, hv, hh, hn, hc, ht⟩
  · omega
  · have hu : xs[k]? = some xs[k] := List.getElem?_eq_getElem (by omega)
    exact ⟨g, cap, _, hv, hu, h.cells (g := g) (by rw [hv]; rfl) k _ hu⟩
theorem icells_at {l : List Int} {k : Nat} {u : Value} (h : (icells l)[k]? = some u) : u = .int .i64 (l.getD k 0) := by
  simp only [icells, List.getElem?_map] at h
  rcases hx : l[k]? with _ | x
  · rw [hx] at h; cases h
  · rw [hx] at h; simp at h; simp [List.getD, hx, h]

end Go.Proofs.YtonbnmicgmnliaaDoor

namespace Go.Proofs.YtonbnmicgmnliaaDoor
set_option linter.unusedSimpArgs false
set_option linter.unusedVariables false
open Go.RowKit

/-! ### The tokens' numbers are few -/
/-! ### Blocks of a call's own -/
/-- A slice that is cut. -/
theorem Rd.cut {w : World} {a : Option Addr} {n : Nat} {xs : List Value} (h : Rd w a n xs) {lo hi : Nat} (h1 : lo ≤ hi) (h2 : hi ≤ n) (b : Bool) (hb : b = true → hi - lo = 0) : Rd w (if b = true then a else a.map (·.add lo)) (hi - lo) ((xs.drop lo).take (hi - lo)) := by
  refine ⟨by simp [h.1]; omega, ?_⟩
  rcases Nat.eq_zero_or_pos (hi - lo) with h0 | h0
  · exact .inl h0
  · refine .inr ?_
    have hbf : ¬ b = true := fun e => by have := hb e; omega
    rw [if_neg hbf]
    rcases h.2 with hn | ⟨g, off, rfl, hc⟩
    · omega
    · refine ⟨g, off + lo, by simp only [Option.map_some]; rcases lo with _ | j <;> simp [Addr.add], fun i u hi' => ?_⟩
      rw [List.getElem?_take] at hi'
      split at hi'
      · rw [List.getElem?_drop] at hi'
        rw [Nat.add_assoc]
        exact hc _ u hi'
      · cases hi'
/-- What was there is in no new block. -/
theorem Rd.out {w : World} {a : Option Addr} {n : Nat} {xs : List Value} (h : Rd w a n xs) (h0 : 0 < n) {k : Nat} (hk : w.heap.size ≤ k) : Out [k] a := by
  obtain ⟨b, off, u, rfl, _, _, hb⟩ := h.at_ h0
  intro x hx hm
  injection hx with hx
  subst hx
  simp at hm; omega
theorem cut_to {P : Program} {t : TypeId} (ht : P.underlying t = some (.slice (P.elem t))) (hs : ∀ w : World, (sizeOf (P.elem t)).run P w = .ok 1 w) (a : Option Addr) (n cap k : Nat) (hk : k ≤ n) (hn : n ≤ cap) :
    ∃ a', (∀ w, (Instr.slice t (.slice a n cap) none (some (.int .i64 k)) none).run P w = .ok (.slice a' k cap) w) ∧ ∀ w xs, Rd w a n xs → Rd w a' k (xs.take k) := by
  refine ⟨if cap = 0 then a else a.map (·.add 0), fun w => ?_, fun w xs h => ?_⟩
  · rw [run_slice_h w t a n cap ht .i64 k (by omega) (by omega), hs]
    simp [Result.andThen, sliced]
  · have := h.cut (lo := 0) (hi := k) (by omega) hk (decide (cap = 0)) (fun e => by have := of_decide_eq_true e; omega)
    simpa using this
theorem IsRow.rd {w : World} {a : Option Addr} {len cap : Nat} {zs : List Int} (h : IsRow .u8 w a len cap zs) {n : Nat} (hn : n ≤ len) : Rd w a n (bcells (zs.take n)) ∧ (zs.take n).length = n ∧ (∀ c ∈ zs.take n, 0 ≤ c ∧ c < 256) ∧ len ≤ cap ∧ cap ≤ maxLen ∧ (0 < n → ∃ b off, a = some ⟨b, off, none⟩) := by
  rcases Nat.eq_zero_or_pos cap with h0 | h0
  · have : len = 0 ∧ len ≤ cap := by
      rcases h with ⟨_, h1, h2, _⟩ | ⟨_, _, h1, _⟩ <;> omega
    have hn0 : n = 0 := by omega
    subst hn0
    exact ⟨⟨by simp [bcells], .inl rfl⟩, by simp, by simp, this.2, by unfold maxLen; omega, by omega⟩
  · obtain ⟨b, off, ha, h1, h2, h3, h4, hc, hw⟩ := h.plain h0
    refine ⟨⟨by simp [bcells]; omega, .inr ⟨b, off, ha, fun i u hi => ?_⟩⟩, by simp; omega, fun c hc' => ?_, h1, h2, fun _ => ⟨b, off, ha⟩⟩
    · simp only [bcells, List.getElem?_map] at hi
      rcases hx : (zs.take n)[i]? with _ | x
      · rw [hx] at hi; cases hi
      · rw [hx] at hi
        simp only [Option.map_some, Option.some.injEq] at hi
        subst hi
        rw [List.getElem?_take] at hx
        split at hx
        · have := hc i (by omega)
          rw [this]
          simp [List.getD, hx]
        · cases hx
    · have := hw c (List.mem_of_mem_take hc')
      have h2 : IntKind.u8.min ≤ c ∧ c ≤ IntKind.u8.max := by simpa [Lit.wf] using this
      have e1 : IntKind.u8.min = 0 := rfl
      have e2 : IntKind.u8.max = 255 := rfl
      omega

theorem bcells_one (l : List Int) : ∀ u ∈ bcells l, u.oneCell' = true := by
  intro u hu
  simp only [bcells, List.mem_map] at hu
  obtain ⟨c, _, rfl⟩ := hu
  rfl
theorem HasRow.rd_ {w : World} {e n : Nat} {a : Option Addr} {c : Nat} {xs : List Value} (h : HasRow w e (.slice a n c) n xs) : Rd w a n xs := by
  refine ⟨h.1, ?_⟩
  rcases h.2 with ⟨_, h0⟩ | ⟨g, cap, cur, hv, _⟩
  · exact .inl h0
  · injection hv with ha
    exact .inr ⟨g, 0, ha, fun i u hi => by rw [Nat.zero_add]; exact h.cells (g := g) (by rw [ha]; rfl) i u hi⟩

/-! ### The calls -/
end Go.Proofs.YtonbnmicgmnliaaDoor

namespace Go.Proofs.YtonbnmicgmnliaaDoor
set_option linter.unusedSimpArgs false
set_option linter.unusedVariables false
open Go.RowKit

theorem uint8_info : (Tryd.prog.info? 5).map (fun i => (i.zero, i.size, i.bytes)) = some (some (.int .u8 0), 1, 1) := by kernel_rfl

end Go.Proofs.YtonbnmicgmnliaaDoor
