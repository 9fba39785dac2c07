/-
  A token's bytes in both texts, walked.
-/
import Derived.Deep.RegionHeld3
import Derived.Test.YtonbnmicgmnliaaGreatDoorZTkD
import Derived.Test.YtonbnmicgmnliaaGreatDoorZPdV
namespace Go.Proofs.YtonbnmicgmnliaaGreatDoor
set_option linter.unusedSimpArgs false
set_option linter.unusedVariables false
open Go.RowKit

theorem begins_walk (k : Int) (w : World) : Calls Tryz.prog 39 #[.int .i64 k] w fun e w' => e = .returned (.int .u8 (begR k)) ∧ w = w' := by
  go_enter Tryz.func39, Tryz.ntmps39
  go_wp2
  all_goals (go_ret; refine ⟨?_, rfl⟩; simp_all [begR])
theorem begins_eq (k : Int) : beginsR k = begR k := by unfold beginsR begR; rfl

theorem pairR_len (c : Int) (eight : Bool) : ([] ++ pairR c eight).length ≤ 2 := by
  unfold pairR; split <;> simp
/-- What Bytes gives of a token that can be. -/
def TBytes (w : World) (l : List Int) (e : Ending) (w' : World) : Prop := ∃ v, e = .returned (.tuple #[v, .int .i64 0]) ∧ (∃ w0, Gr w w0 ∧ BRow w0 w' v l) ∧ Gr w w'

theorem src_str {w : World} {l : List Int} {n : Nat} (hn : l.length = n) (h : ∀ c ∈ l, 0 ≤ c ∧ c < 256) : Src Tryz.prog 1 9 (.string (strOf l)) n (bcells l) w := by
  have := Src.ofString (P := Tryz.prog) w Tryz.underlying9 (strOf l)
  rw [byteCells_strOf l h, strOf_size', hn] at this
  exact this
theorem BRow.of {w0 w : World} {v : Value} {n : Nat} {xs : List Value} {l : List Int} (h : w.ownsRow w0.heap.size 5 1 v n xs) (hx : xs = bcells l) : BRow w0 w v l := by
  subst hx
  have hn : n = l.length := by have := h.1; simpa [bcells] using this.symm
  subst hn
  exact h
theorem fmtR_len (l : List Int) : (fmtR l).length ≤ 180 := by
  have := fmtGo_len (l.take 30)
  unfold fmtR
  rw [List.length_take] at this
  omega
theorem HasRow.rdi {w : World} {a : Option Addr} {n c : Nat} {e : TypeId} {xs : List Value} (h : HasRow w e (.slice a n c) n xs) : Rd w a n xs ∧ n ≤ c := by
  refine ⟨?_, ?_⟩
  · obtain ⟨a', c', he, hr, _⟩ := h.rd
    injection he with e1 e2 e3
    subst e1
    exact hr
  · rcases h.2 with ⟨he, h0⟩ | ⟨g, cap, cur, he, _, h1, _⟩
    · omega
    · injection he with _ _ e3; omega

theorem BRow.len {w0 w : World} {a : Option Addr} {n c : Nat} {l : List Int} (h : BRow w0 w (.slice a n c) l) : l.length = n := by
  obtain ⟨_, _, e⟩ := h.form
  injection e with _ e _
  exact e.symm
end Go.Proofs.YtonbnmicgmnliaaGreatDoor
