/-
  How an id is taken off a text of ids; both texts' Restore.
-/
import Derived.Test.YtomflpkokcldeaaIsP
import Derived.Test.YtomflpkokcldeaaShelf
namespace Go.Proofs.Ytomflpkokcldeaa
set_option linter.unusedSimpArgs false
set_option linter.unusedVariables false
open Go.RowKit
set_option linter.unusedVariables false

/-- How many bytes the id at the front has. -/
def idN (l : List UInt8) : Nat := if Lib.hasPrefix l [37] = true then 2 else 1

set_option maxHeartbeats 1000000 in
theorem sid_any (s : ByteArray) (w : World) (hs : s.size ≤ maxLen) :
    Calls Try.prog 37 #[.string s] w fun e w' => e = .returned (.tuple #[.string (s.extract 0 (min (idN s.data.toList) s.size)), .string (s.extract (min (idN s.data.toList) s.size) s.size)]) ∧ Gr w w' := by
  unfold maxLen at hs
  have h37 : (ByteArray.mk #[37]).data.toList = [37] := rfl
  have hpre := Try.strings_HasPrefix s ⟨#[37]⟩
  simp only [h37] at hpre
  unfold idN
  rcases hp : Lib.hasPrefix s.data.toList [37] with _ | _
  · rw [hp] at hpre
    rw [if_neg (by decide)]
    obtain ⟨n, hn⟩ : ∃ n, n = min 1 s.size := ⟨_, rfl⟩
    have hni : min 1 (s.size : Int) = (n : Int) := by omega
    have hn1 : (n : Int) ≤ (s.size : Int) := by omega
    have hn0 : (0 : Int) ≤ (n : Int) := by omega
    rw [← hn]
    clear hn
    go_enter Try.func37, Try.ntmps37
    go_wp2_with (go_at_call 53; refine (hpre _).mono ?_; rintro e w1 ⟨rfl, rfl⟩)
    go_quiet (fail)
    go_wp2_with fail
    exact bodyPost_ret (v := .tuple #[.string (s.extract 0 n), .string (s.extract n s.size)]) (by simp [results, Try.results37, go_sem]) rfl ⟨rfl, by (repeat (first | with_reducible exact Gr.refl _ | with_reducible assumption | with_reducible refine Gr.setCell ?_ (by simp; try omega) _ | with_reducible refine Gr.alloc ?_ _ | with_reducible refine Gr.drew ?_ | with_reducible refine Gr.drewN ?_ _ | with_reducible refine Gr.trans ?_ (by assumption)))⟩
  · rw [hp] at hpre
    rw [if_pos rfl]
    obtain ⟨n, hn⟩ : ∃ n, n = min 2 s.size := ⟨_, rfl⟩
    have hni : min 2 (s.size : Int) = (n : Int) := by omega
    have hn1 : (n : Int) ≤ (s.size : Int) := by omega
    have hn0 : (0 : Int) ≤ (n : Int) := by omega
    rw [← hn]
    clear hn
    go_enter Try.func37, Try.ntmps37
    go_wp2_with (go_at_call 53; refine (hpre _).mono ?_; rintro e w1 ⟨rfl, rfl⟩)
    go_quiet (fail)
    go_wp2_with fail
    exact bodyPost_ret (v := .tuple #[.string (s.extract 0 n), .string (s.extract n s.size)]) (by simp [results, Try.results37, go_sem]) rfl ⟨rfl, by (repeat (first | with_reducible exact Gr.refl _ | with_reducible assumption | with_reducible refine Gr.setCell ?_ (by simp; try omega) _ | with_reducible refine Gr.alloc ?_ _ | with_reducible refine Gr.drew ?_ | with_reducible refine Gr.drewN ?_ _ | with_reducible refine Gr.trans ?_ (by assumption)))⟩
end Go.Proofs.Ytomflpkokcldeaa
