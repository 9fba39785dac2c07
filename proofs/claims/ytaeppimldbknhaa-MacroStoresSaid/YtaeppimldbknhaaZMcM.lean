/-
  The laws on digits and repeats, walked.
-/
import Derived.Test.YtaeppimldbknhaaZMcI0
import Derived.Test.YtaeppimldbknhaaZMcK
namespace Go.Proofs.Ytaeppimldbknhaa
set_option linter.unusedSimpArgs false
set_option linter.unusedVariables false
open Go.RowKit
set_option linter.unusedVariables false

theorem MaxOk.of {w : World} (h : w.ShapedOpen Try.prog) : MaxOk w := Try.laysM145.s1_3 w h

set_option maxRecDepth 100000 in
set_option maxHeartbeats 1000000 in
theorem short_any (l : List UInt8) (n : Nat) (w : World) (hn : n ≤ 1000000) (hl : l.length ≤ maxLen) : Calls Try.prog 8 #[.string (bsl l), .int .i64 (n : Int)] w fun e w' => e = .returned (.string (bsl (l.take n))) ∧ w = w' := by
  have hsz := bsl_size l
  unfold maxLen at hl
  by_cases h : n < l.length
  · have hI : (n : Int) < ((bsl l).size : Int) := by omega
    have hI' : n < (bsl l).size := by omega
    have hle : n ≤ (bsl l).size := by omega
    have hsl : (bsl l).extract 0 n = bsl (l.take n) := by rw [bsl_extract]; simp
    clear hsz
    go_enter Try.func8, Try.ntmps8
    go_wp2
    go_ret
    exact ⟨rfl, rfl⟩
  · have hI : ¬ (n : Int) < ((bsl l).size : Int) := by omega
    have hI' : ¬ n < (bsl l).size := by omega
    have ht : l.take n = l := List.take_of_length_le (by omega)
    rw [ht]
    clear hsz ht
    go_enter Try.func8, Try.ntmps8
    go_wp2
    go_ret
    exact ⟨rfl, rfl⟩

def aw1 : List UInt8 := [52, 49, 33, 51, 59, 52, 50, 52, 51, 59, 52, 52]
def aw2 : List UInt8 := [33, 57, 57, 59, 52, 49]
theorem aw1_dec : decR aw1 99 [] = ([65, 66, 67, 66, 67, 66, 67, 68], 0) := by decide +kernel
theorem aw2_dec : decR aw2 9 [] = ([], 5) := by decide +kernel
set_option maxRecDepth 100000 in
set_option maxHeartbeats 1000000 in
theorem awake20 (w : World) (hm : MaxOk w) : Calls Try.prog 7 #[] w fun e w' => e = .returned (.bool true) ∧ Gr w w' := by
  have h1 : ∀ w, MaxOk w → Calls Try.prog 9 #[.string ⟨#[52, 49, 33, 51, 59, 52, 50, 52, 51, 59, 52, 52]⟩, .int .i64 99] w fun e w' => e = .returned (.tuple #[.string ⟨#[65, 66, 67, 66, 67, 66, 67, 68]⟩, .int .i64 0]) ∧ Gr w w' := by
    intro w hm
    have := decode_any aw1 99 w (by decide) (by decide) hm
    rw [show (99 : Int).toNat = 99 from rfl, aw1_dec] at this
    exact this
  have h2 : ∀ w, MaxOk w → Calls Try.prog 9 #[.string ⟨#[33, 57, 57, 59, 52, 49]⟩, .int .i64 9] w fun e w' => e = .returned (.tuple #[.string ⟨#[]⟩, .int .i64 5]) ∧ Gr w w' := by
    intro w hm
    have := decode_any aw2 9 w (by decide) (by decide) hm
    rw [show (9 : Int).toNat = 9 from rfl, aw2_dec] at this
    exact this
  go_enter Try.func7, Try.ntmps7
  go_wp2_with (first
    | (go_at_call 9; (with_reducible refine (h1 _ hm).mono ?_); rintro e w1 ⟨rfl, hg1⟩; have hm1 := hm.gr hg1)
    | (go_at_call 9; (with_reducible refine (h2 _ hm1).mono ?_); rintro e w2 ⟨rfl, hg2⟩))
  go_ret
  exact ⟨rfl, hg1.trans hg2⟩

end Go.Proofs.Ytaeppimldbknhaa
