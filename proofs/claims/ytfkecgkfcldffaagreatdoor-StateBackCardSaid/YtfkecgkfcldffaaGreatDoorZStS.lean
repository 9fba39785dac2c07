/-
  The law StateCursors (gen_sts.py).
-/
import Derived.Test.YtfkecgkfcldffaaGreatDoorZStM
import Derived.Test.YtfkecgkfcldffaaGreatDoorZStW
namespace Go.Proofs.YtfkecgkfcldffaaGreatDoor
set_option linter.unusedSimpArgs false
set_option linter.unusedVariables false
open Go.ChangeShapes Go.WideShapes Go.RowKit
set_option linter.unusedVariables false

/-- What a text brings back of a cursor: the state, and whether it did. -/
def curP (c : Cor) (l : List Int) : Cor × Bool :=
  match splitSemi l with
  | [f0, f1, f2, f3, f4, f5, f6, f7, f8, f9] => bif okCur c f0 f1 f2 f3 f4 f5 f6 f7 f8 f9 then ((ccur c f0 f1 f2 f3 f4 f5 f6 f7 f8 f9 (curS7 c f0 f1 f2 f3 f4 f5 f6 f7 f8 f9).1 (sgl (bitV f5 15))).clean, true) else (c.clean, false)
  | _ => (c.clean, false)
def curC (c : Cor) (l : List Int) : Cor := (curP c l).1
def curOk (c : Cor) (l : List Int) : Bool := (curP c l).2
theorem is10 {l : List (List Int)} (h : l.length = 10) : ∃ f0 f1 f2 f3 f4 f5 f6 f7 f8 f9, l = [f0, f1, f2, f3, f4, f5, f6, f7, f8, f9] := by
  match l, h with
  | [f0, f1, f2, f3, f4, f5, f6, f7, f8, f9], _ => exact ⟨f0, f1, f2, f3, f4, f5, f6, f7, f8, f9, rfl⟩
theorem cur_no {c : Cor} {l : List Int} (hx : (splitSemi l).length ≠ 10) : curC c l = c.clean ∧ curOk c l = false := by
  unfold curC curOk curP
  split
  · rename_i he; rw [he] at hx; exact absurd rfl hx
  · exact ⟨rfl, rfl⟩
theorem cur_10 {c : Cor} {l : List Int} (f0 f1 f2 f3 f4 f5 f6 f7 f8 f9 : List Int) (hx : splitSemi l = [f0, f1, f2, f3, f4, f5, f6, f7, f8, f9]) : curC c l = (bif okCur c f0 f1 f2 f3 f4 f5 f6 f7 f8 f9 then (ccur c f0 f1 f2 f3 f4 f5 f6 f7 f8 f9 (curS7 c f0 f1 f2 f3 f4 f5 f6 f7 f8 f9).1 (sgl (bitV f5 15))).clean else c.clean) ∧ curOk c l = okCur c f0 f1 f2 f3 f4 f5 f6 f7 f8 f9 := by
  unfold curC curOk curP
  rw [hx]
  simp only
  cases okCur c f0 f1 f2 f3 f4 f5 f6 f7 f8 f9 <;> exact ⟨rfl, rfl⟩
theorem ten_b {l : List Int} (hl : ∀ c ∈ l, 0 ≤ c ∧ c < 256) {f0 f1 f2 f3 f4 f5 f6 f7 f8 f9 : List Int} (hx : splitSemi l = [f0, f1, f2, f3, f4, f5, f6, f7, f8, f9]) : ((∀ c ∈ f0, 0 ≤ c ∧ c < 256) ∧ f0.length ≤ l.length) ∧ ((∀ c ∈ f1, 0 ≤ c ∧ c < 256) ∧ f1.length ≤ l.length) ∧ ((∀ c ∈ f2, 0 ≤ c ∧ c < 256) ∧ f2.length ≤ l.length) ∧ ((∀ c ∈ f3, 0 ≤ c ∧ c < 256) ∧ f3.length ≤ l.length) ∧ ((∀ c ∈ f4, 0 ≤ c ∧ c < 256) ∧ f4.length ≤ l.length) ∧ ((∀ c ∈ f5, 0 ≤ c ∧ c < 256) ∧ f5.length ≤ l.length) ∧ ((∀ c ∈ f6, 0 ≤ c ∧ c < 256) ∧ f6.length ≤ l.length) ∧ ((∀ c ∈ f7, 0 ≤ c ∧ c < 256) ∧ f7.length ≤ l.length) ∧ ((∀ c ∈ f8, 0 ≤ c ∧ c < 256) ∧ f8.length ≤ l.length) ∧ ((∀ c ∈ f9, 0 ≤ c ∧ c < 256) ∧ f9.length ≤ l.length) := by
  have h := split_byte hl
  rw [hx] at h
  simp only [List.forall_mem_cons, List.not_mem_nil, false_implies, implies_true, and_true] at h
  exact h
theorem psc_any (c : Cor) (l : List Int) (w : World) (hok : c.Ok) (hM : MaxOkS w) (hl : ∀ c ∈ l, 0 ≤ c ∧ c < 256) (hn : l.length ≤ 300) : Calls Tryz.prog 10 #[.agg (cvA c), .string (strOf l)] w fun e w' => e = .returned (.tuple #[.agg (cvA (curC c l)), .int .i64 (errK (curOk c l))]) ∧ Gr w w' := by
  by_cases hx : (splitSemi l).length = 10
  · obtain ⟨f0, f1, f2, f3, f4, f5, f6, f7, f8, f9, hx⟩ := is10 hx
    obtain ⟨⟨hf0, nf0⟩, ⟨hf1, nf1⟩, ⟨hf2, nf2⟩, ⟨hf3, nf3⟩, ⟨hf4, nf4⟩, ⟨hf5, nf5⟩, ⟨hf6, nf6⟩, ⟨hf7, nf7⟩, ⟨hf8, nf8⟩, ⟨hf9, nf9⟩⟩ := ten_b hl hx
    obtain ⟨e1, e2⟩ := cur_10 (c := c) f0 f1 f2 f3 f4 f5 f6 f7 f8 f9 hx
    rw [e1, e2]
    have h := setc_10 c l f0 f1 f2 f3 f4 f5 f6 f7 f8 f9 w hok hM hl (by omega) hx hf0 hf1 hf2 hf3 hf4 hf5 hf6 hf7 hf8 hf9 (by omega) (by omega) (by omega) (by omega) (by omega) (by omega) (by omega) (by omega) (by omega) (by omega)
    cases hk : okCur c f0 f1 f2 f3 f4 f5 f6 f7 f8 f9 with
    | true => rw [hk] at h; exact h
    | false => rw [hk] at h; exact h
  · obtain ⟨e1, e2⟩ := cur_no (c := c) hx
    rw [e1, e2]
    exact setc_no c l w hok hM hl (by omega) hx
/-- The cursor of a state, as a list of bytes. -/
def curL (c : Cor) : List Int := (curS c).data.toList.map fun b => (b.toNat : Int)
theorem curL_s (c : Cor) : curS c = strOf (curL c) := by unfold curL; rw [strOf_bytes]
theorem curL_b (c : Cor) : ∀ x ∈ curL c, 0 ≤ x ∧ x < 256 := by
  intro x hx
  obtain ⟨b, _, rfl⟩ := List.mem_map.1 hx
  have := b.toNat_lt; omega
theorem curL_l (c : Cor) : (curL c).length ≤ 300 := by
  unfold curL curS joinB
  rw [List.length_map]
  show (Lib.join _ [59]).length ≤ 300
  refine Nat.le_trans (join_le 18 _ ?_) (Nat.le_of_ble_eq_true rfl)
  simp only [List.forall_mem_cons, List.not_mem_nil, false_implies, implies_true, and_true]
  refine ⟨fmt_sz _ 3 (Nat.le_refl _), ?_, ?_, ?_, Nat.le_trans (fmt_sz _ 2 (Nat.le_refl _)) (by decide), ?_, Nat.le_trans (ids_sz _) (by decide)⟩ <;> exact Nat.le_trans (Nat.le_of_eq (strOf_sz _)) (Nat.le_of_ble_eq_true rfl)
end Go.Proofs.YtfkecgkfcldffaaGreatDoor
