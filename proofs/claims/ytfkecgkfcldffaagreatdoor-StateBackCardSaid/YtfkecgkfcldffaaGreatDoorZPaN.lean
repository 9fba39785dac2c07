/-
  The machine that takes byte by byte says what the document's reading of the whole stream says.
  The machine that takes byte by byte says what the document's reading of the whole stream says: the whole of it.
  A whole stream: the machine's tokens, and whether something is left begun, are the document's.
-/
import Derived.Test.YtfkecgkfcldffaaGreatDoorZPaM
namespace Go.Proofs.YtfkecgkfcldffaaGreatDoor
set_option linter.unusedSimpArgs false
set_option linter.unusedVariables false
section
/-! ### Behind an escape -/
/-! ### In the numbers of a sequence -/
/-- The numbers that are still to come, the one being read being n. -/
def piecesFrom (n : Int) (l : List Int) : List Int :=
  match splitSemi l with
  | [] => []
  | p :: r => (p.foldl (fun n c => min (n * 10 + (c - 48)) 65535) n) :: r.map numR
theorem splitSemi_ne (l : List Int) : splitSemi l ≠ [] := by
  cases l with
  | nil => simp [splitSemi]
  | cons c l => unfold splitSemi; split; simp; split <;> simp
theorem pieces_zero (l : List Int) : piecesFrom 0 l = (splitSemi l).map numR := by
  unfold piecesFrom
  split
  · rename_i h; exact absurd h (splitSemi_ne l)
  · rename_i p r h; simp [h, numR]
theorem acc_run (l : List Int) : ∀ s : PS, s.begun = true → s.done.length ≤ 30 → accList (l.foldl accByte s) = (s.done ++ piecesFrom s.now l).take 30 := by
  induction l with
  | nil =>
    intro s hb hl
    simp only [List.foldl_nil, accList, hb, true_and, piecesFrom, splitSemi, List.foldl_nil, List.map_nil]
    split
    · rw [List.take_of_length_le (by simp; omega)]
    · rw [List.take_append_of_le_length (by omega), List.take_of_length_le (by omega)]
  | cons c l ih =>
    intro s hb hl
    simp only [List.foldl_cons]
    by_cases h59 : c = 59
    · subst h59
      have hp : piecesFrom s.now (59 :: l) = s.now :: piecesFrom 0 l := by
        rw [pieces_zero]; simp [piecesFrom, splitSemi]
      have hd : (accByte s 59).done.length ≤ 30 := by
        unfold accByte; simp only [if_true]; split
        · simp; omega
        · exact hl
      rw [ih (accByte s 59) (by simp [accByte]) hd, hp]
      simp only [accByte, if_true]
      split
      · simp
      · rw [List.take_append_of_le_length (by omega), List.take_append_of_le_length (by omega)]
    · have hp : piecesFrom s.now (c :: l) = piecesFrom (min (s.now * 10 + (c - 48)) 65535) l := by
        unfold piecesFrom
        rw [splitSemi, if_neg h59]
        split
        · rename_i h; split at h <;> cases h
        · rename_i p r h
          split at h
          · rename_i h2; exact absurd h2 (splitSemi_ne l)
          · rename_i p' r' h2; injection h with h3 h4; subst h3 h4; rw [h2]; rfl
      rw [ih (accByte s c) (by simp [accByte, h59]) (by simp [accByte, h59]; exact hl), hp]
      simp [accByte, h59]
theorem acc_nums (l : List Int) (s : PS) (hb : s.begun = false) (hd : s.done = []) (hn : s.now = 0) : accList (l.foldl accByte s) = numsR l := by
  cases l with
  | nil => simp [accList, hb, hd, numsR]
  | cons c l =>
    have h := acc_run (c :: l) { s with begun := true } rfl (by simp [hd])
    have e : (c :: l).foldl accByte { s with begun := true } = (c :: l).foldl accByte s := by
      simp only [List.foldl_cons]
      congr 1
    rw [e] at h
    rw [h, hd, hn, pieces_zero]
    simp [numsR]
end
section
/-! ### In a string -/
end
section
end
end Go.Proofs.YtfkecgkfcldffaaGreatDoor
