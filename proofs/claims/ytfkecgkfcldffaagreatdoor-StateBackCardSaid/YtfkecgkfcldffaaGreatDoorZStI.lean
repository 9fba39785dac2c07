/-
 Renditions' numbers and the settings of a state, both texts, walked (gen_sti.py).
-/
import Derived.Test.YtfkecgkfcldffaaGreatDoorZHf
import Derived.Test.YtfkecgkfcldffaaGreatDoorZStG
namespace Go.Proofs.YtfkecgkfcldffaaGreatDoor
set_option linter.unusedSimpArgs false
set_option linter.unusedVariables false
open Go.RowKit
set_option linter.unusedVariables false

theorem meet_lt2 (aT al ab ar bT bl bb br : Int) : ((meetZ aT al ab ar bT bl bb br).1 = 0 ∧ (meetZ aT al ab ar bT bl bb br).2.1 = 0) ∨ ((meetZ aT al ab ar bT bl bb br).1 < (meetZ aT al ab ar bT bl bb br).2.2.1 ∧ (meetZ aT al ab ar bT bl bb br).2.1 < (meetZ aT al ab ar bT bl bb br).2.2.2) := by
 unfold meetZ
 split
 ·exact .inl ⟨rfl, rfl⟩
 ·rename_i h
  simp only [Bool.not_eq_true, Bool.or_eq_false_iff] at h
  exact .inr (empty_f h.2)
theorem inner_lt {pb pr mt ml mb mr : Int} (h1 : I6 pb) (h2 : I6 pr) (k : I6 mt ∧ I6 ml ∧ I6 mb ∧ I6 mr) : (innerZ pb pr mt ml mb mr).1 < 9223372036854775807 ∧ (innerZ pb pr mt ml mb mr).2.1 < 9223372036854775807 := by
 have hw := whole_in h1 h2
 have hm := meet_in (aT := 0) (al := 0) (ab := max 0 (max 1 pb)) (ar := max 0 (max 1 pr)) (by unfold I6 at *; omega) k
 have hl := meet_lt2 0 0 (max 0 (max 1 pb)) (max 0 (max 1 pr)) mt ml mb mr
 unfold innerZ
 split
 ·unfold wholeZ; simp only; omega
 ·unfold I6 at hm; omega
theorem fmt_sz (l : List Int) (n : Nat) (h : l.length ≤ n) : (strOf (fmtR l)).size ≤ 6 * n := by
 rw [strOf_sz]
 have := fmtGo_len (l.take 30)
 have h2 : (l.take 30).length ≤ l.length := by simp; omega
 unfold fmtR
 omega
theorem flag_in (b : Bool) : 0 ≤ flagZ b ∧ flagZ b ≤ 1 := by cases b <;> decide
theorem clean_nice {c : Cor} (hok : c.Ok) : (0 ≤ c.clean.rend ∧ c.clean.rend < 32) ∧ (1 ≤ c.clean.level ∧ c.clean.level ≤ 5) ∧ (c.clean.mt < 9223372036854775807 ∧ c.clean.ml < 9223372036854775807) ∧ (-9223372036854775808 ≤ c.clean.mt ∧ -9223372036854775808 ≤ c.clean.ml) ∧ (∀ b, 0 ≤ flagZ b ∧ flagZ b ≤ 1) := by
 have hr := hok.rend
 have h5 := clipz_in c.level 1 5 (by decide)
 have hin := inner_lt hok.p.2.2.1 hok.p.2.2.2 hok.m
 refine ⟨?_, h5, ?_, ?_, fun b => by cases b <;> decide⟩
 ·show 0 ≤ c.rend % 32 ∧ c.rend % 32 < 32; omega
 ·exact ⟨hin.1, hin.2⟩
 ·exact ⟨hok.clean.m.1.1, hok.clean.m.2.1.1⟩
end Go.Proofs.YtfkecgkfcldffaaGreatDoor
