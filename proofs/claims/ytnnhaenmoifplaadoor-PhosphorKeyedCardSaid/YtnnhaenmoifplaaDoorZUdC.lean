/-
  Hexadecimal digits: what the functions of both texts do with one.
  Keys with texts: the plain law (texts by keys, the document's list, definitions).
  Keys with texts: is and key of the program.
-/
import Derived.BigQuiet
import Derived.Deep.QuietTactic
import Derived.IntWalk
import Derived.Laws.Externs
import Derived.Lib.AppendStr
import Derived.Lib.Builder
import Derived.Lib.Hide
import Derived.Lib.Slices
import Derived.Lib.SplitLaws
import Derived.Lib.Strings
import Derived.Test.YtnnhaenmoifplaaDoorRows
import Derived.Test.YtnnhaenmoifplaaDoorShelf
import Derived.Test.YtnnhaenmoifplaaDoorZLw4
import Derived.Test.YtnnhaenmoifplaaDoorZSrc
namespace Go.Proofs.YtnnhaenmoifplaaDoor
set_option linter.unusedSimpArgs false
set_option linter.unusedVariables false
open Go.RowKit
set_option linter.unusedVariables false

/-- A text of a list. -/
def bsl (l : List UInt8) : ByteArray := ⟨l.toArray⟩
theorem bsl_list (l : List UInt8) : (bsl l).data.toList = l := by simp [bsl]
/-! ### The document's -/
end Go.Proofs.YtnnhaenmoifplaaDoor

namespace Go.Proofs.YtnnhaenmoifplaaDoor
set_option linter.unusedSimpArgs false
set_option linter.unusedVariables false
set_option linter.unusedVariables false

/-! ### Pieces at a separator -/
/-! ### Keys -/
/-- Is it a key? -/
def isK (n : Nat) : Bool := decide (17 ≤ n) && decide (n ≤ 34) && decide (n ≠ 22) && decide (n ≠ 27) && decide (n ≠ 30)
theorem isK_in {n : Nat} (h : isK n = true) : 17 ≤ n ∧ n ≤ 34 := by unfold isK at h; simp at h; omega
/-! ### The texts -/
abbrev Txs := List (List UInt8)
/-! ### Definitions -/
end Go.Proofs.YtnnhaenmoifplaaDoor

namespace Go.Proofs.YtnnhaenmoifplaaDoor
set_option linter.unusedSimpArgs false
set_option linter.unusedVariables false
open Go.RowKit
set_option linter.unusedVariables false

/-- Is a number a key's? -/
def isZ (n : Int) : Bool := decide (17 ≤ n) && decide (n ≤ 34) && decide (n ≠ 22) && decide (n ≠ 27) && decide (n ≠ 30)
theorem isZ_nat (n : Nat) : isZ (n : Int) = isK n := by
  rw [Bool.eq_iff_iff]
  unfold isZ isK
  simp only [Bool.and_eq_true, decide_eq_true_eq]
  omega
theorem isZ_form {n : Int} (h : isZ n = true) : ∃ m : Nat, n = m ∧ isK m = true ∧ 17 ≤ m ∧ m ≤ 34 := by
  have h0 : 17 ≤ n := by
    unfold isZ at h
    simp only [Bool.and_eq_true, decide_eq_true_eq] at h
    omega
  refine ⟨n.toNat, by omega, ?_⟩
  have e : n = (n.toNat : Int) := by omega
  rw [e, isZ_nat] at h
  exact ⟨h, isK_in h⟩
set_option maxHeartbeats 400000 in
theorem is_any (n : Int) (w : World) : Calls Tryd.prog 41 #[.int .i64 n] w fun e w' => e = .returned (.bool (isZ n)) ∧ w = w' := by
  obtain ⟨b, hb⟩ : ∃ b, b = isZ n := ⟨_, rfl⟩
  rw [← hb]
  have HB := Lib.hid hb
  clear hb
  by_cases h : n = 22 ∨ n = 27 ∨ n = 30
  · have hf : b = false := by
      rw [HB.out]; unfold isZ
      rcases h with rfl | rfl | rfl <;> decide
    subst hf
    rcases h with rfl | rfl | rfl
    all_goals
      go_enter Tryd.func41, Tryd.ntmps41
      go_wp2
      go_ret
      exact ⟨rfl, rfl⟩
  · have h1 : (n == 22) = false := by simp; omega
    have h2 : (n == 27) = false := by simp; omega
    have h3 : (n == 30) = false := by simp; omega
    have hv : b = (decide (17 ≤ n) && decide (n ≤ 34)) := by
      rw [HB.out, Bool.eq_iff_iff]; unfold isZ
      simp only [Bool.and_eq_true, decide_eq_true_eq]
      omega
    have HV := Lib.hid hv
    clear hv h
    by_cases h4 : 17 ≤ n
    · go_enter Tryd.func41, Tryd.ntmps41
      go_wp2
      go_ret
      exact ⟨by rw [HV.out]; simp [h4] <;> omega, rfl⟩
    · go_enter Tryd.func41, Tryd.ntmps41
      go_wp2
      go_ret
      exact ⟨by rw [HV.out]; simp [h4] <;> omega, rfl⟩
end Go.Proofs.YtnnhaenmoifplaaDoor
