/-
  A token's bytes are bytes, and few.
-/
import Derived.Deep.DeepCutAuto
import Derived.Deep.RegionHeld3
import Derived.Test.YthfipedfoofobaaDoorZOrd7
import Derived.Test.YthfipedfoofobaaDoorZPdI
import Derived.Test.YthfipedfoofobaaDoorZTkP
import Derived.Test.YthfipedfoofobaaDoorZTkR
import Derived.Test.YthfipedfoofobaaDoorZTkS
namespace Go.Proofs.YthfipedfoofobaaDoor
set_option linter.unusedSimpArgs false
set_option linter.unusedVariables false
open Go.RowKit
set_option linter.unusedVariables false

theorem bytes_in {t : Tok} (hr : TRange t) (h : Can t) (eight : Bool) : ∀ c ∈ bytesR t eight, 0 ≤ c ∧ c < 256 := by
  have hpr : ∀ x : Int, 0 ≤ x → x < 256 → ∀ c ∈ pairR x eight, 0 ≤ c ∧ c < 256 := by
    intro x h0 h1 c hc
    unfold pairR at hc
    split at hc
    · rename_i hx
      simp at hc; omega
    · simp at hc; omega
  have hf : ∀ ps, ∀ c ∈ fmtR ps, 0 ≤ c ∧ c < 256 := fun ps c hc => by have := fmtR_in ps c hc; omega
  have hl : ∀ {l : List Int}, IntsOk l → ∀ c ∈ l, 0 ≤ c ∧ c < 256 := fun h c hc => by have := h.2 c hc; omega
  have hb : ∀ k, 0 ≤ begR k ∧ begR k < 256 := fun k => by unfold begR; (repeat' split) <;> omega
  cases h with
  | print c hh => intro x hx; simp [bytesR] at hx; omega
  | ctrl c hh => intro x hx; simp [bytesR] at hx; omega
  | esc c l hh hl0 hx =>
    intro x hx
    by_cases h0 : l = []
    · subst h0
      simp [bytesR] at hx
      exact hpr c (by omega) (by omega) x hx
    · simp [bytesR, h0] at hx
      rcases hx with rfl | hx | rfl
      · omega
      · exact hl hl0 x hx
      · omega
  | csi c m ps l hh hm hps hl0 =>
    intro x hx
    simp [bytesR] at hx
    rcases hx with hx | hx | hx | hx | hx
    · exact hpr _ (hb 4).1 (hb 4).2 x hx
    · rcases hm with hm | hm <;> omega
    · exact hf ps x hx
    · exact hl hl0 x hx
    · omega
  | dcs c m ps l d hh hm hps hl0 hd =>
    intro x hx
    simp [bytesR] at hx
    rcases hx with hx | hx | hx | hx | hx | hx | hx
    · exact hpr _ (hb 5).1 (hb 5).2 x hx
    · rcases hm with hm | hm <;> omega
    · exact hf ps x hx
    · exact hl hl0 x hx
    · omega
    · exact hr.data x hx
    · exact hpr 92 (by omega) (by omega) x hx
  | str k d hk hd =>
    intro x hx
    have h1 : ¬ k < 3 := by omega
    have h2 : ¬ k = 3 := by omega
    have h3 : ¬ k < 6 := by omega
    have h4 : 4 < k := by omega
    simp [bytesR, h1, h2, h3, h4] at hx
    rcases hx with hx | hx | hx
    · exact hpr _ (hb k).1 (hb k).2 x hx
    · exact hr.data x hx
    · exact hpr 92 (by omega) (by omega) x hx
theorem bytes_len {t : Tok} (h : Can t) (eight : Bool) : (bytesR t eight).length ≤ 5000 := by
  have hpr : ∀ x : Int, (pairR x eight).length ≤ 2 := fun x => by unfold pairR; split <;> simp
  have p4 := hpr (begR 4)
  have p5 := hpr (begR 5)
  have p9 := hpr 92
  cases h with
  | print c hh => simp [bytesR]
  | ctrl c hh => simp [bytesR]
  | esc c l hh hl0 hx =>
    have h3 := hl0.1
    have := hpr c
    by_cases h0 : l = []
    · subst h0; simp [bytesR]; omega
    · simp [bytesR, h0]; omega
  | csi c m ps l hh hm hps hl0 =>
    have h3 := hl0.1
    have hf := fmtR_len ps
    by_cases h0 : m = 0
    · simp [bytesR, h0]; omega
    · simp [bytesR, h0]; omega
  | dcs c m ps l d hh hm hps hl0 hd =>
    have h3 := hl0.1
    have h4 := hd.1
    have hf := fmtR_len ps
    by_cases h0 : m = 0
    · simp [bytesR, h0]; omega
    · simp [bytesR, h0]; omega
  | str k d hk hd =>
    have h1 : ¬ k < 3 := by omega
    have h2 : ¬ k = 3 := by omega
    have h3 : ¬ k < 6 := by omega
    have h4 : 4 < k := by omega
    have h5 := hd.1
    have := hpr (begR k)
    simp [bytesR, h1, h2, h3, h4]; omega
end Go.Proofs.YthfipedfoofobaaDoor
