/-
  Digits and repeats: the plain law (what a text of a macro decodes to).
-/
import Derived.Lib.Strings
namespace Go.Proofs.Ytaeppimldbknhaa
set_option linter.unusedSimpArgs false
set_option linter.unusedVariables false
set_option linter.unusedVariables false

/-- A hexadecimal digit's number. -/
def digR (c : UInt8) : Option Nat :=
  if 48 ≤ c.toNat ∧ c.toNat ≤ 57 then some (c.toNat - 48) else if 65 ≤ c.toNat ∧ c.toNat ≤ 70 then some (c.toNat - 55) else if 97 ≤ c.toNat ∧ c.toNat ≤ 102 then some (c.toNat - 87) else none
theorem digR_lt {c : UInt8} {n : Nat} (h : digR c = some n) : n < 16 := by
  unfold digR at h
  split at h
  · injection h; omega
  · split at h
    · injection h; omega
    · split at h
      · injection h; omega
      · cases h
/-- Bytes out of hexadecimal digits. -/
def hexR : List UInt8 → Option (List UInt8)
  | [] => some []
  | [_] => none
  | a :: b :: r => match digR a, digR b with
    | some x, some y => (hexR r).map (UInt8.ofNat (16 * x + y) :: ·)
    | _, _ => none
theorem hexR_len : ∀ {l o : List UInt8}, hexR l = some o → l.length = 2 * o.length
  | [], o, h => by simp [hexR] at h; subst h; rfl
  | [_], o, h => by simp [hexR] at h
  | a :: b :: r, o, h => by
    unfold hexR at h
    split at h
    · obtain ⟨o', h', rfl⟩ := Option.map_eq_some_iff.1 h
      have := hexR_len h'
      simp; omega
    · cases h
theorem hexR_even : ∀ {l : List UInt8}, l.length % 2 = 1 → hexR l = none
  | [], h => by simp at h
  | [_], _ => rfl
  | a :: b :: r, h => by
    unfold hexR
    split
    · rw [hexR_even (by simp at h; omega)]; rfl
    · rfl
/-- Digits as a number, and what is behind. -/
def cntR : Nat → List UInt8 → Nat × List UInt8
  | n, [] => (n, [])
  | n, c :: r => if 48 ≤ c.toNat ∧ c.toNat ≤ 57 then cntR (min (n * 10 + (c.toNat - 48)) 65535) r else (n, c :: r)
theorem cntR_len : ∀ (n : Nat) (l : List UInt8), (cntR n l).2.length ≤ l.length
  | _, [] => by simp [cntR]
  | n, c :: r => by
    unfold cntR
    split
    · have := cntR_len (min (n * 10 + (c.toNat - 48)) 65535) r; simp; omega
    · simp
theorem cntR_le : ∀ (n : Nat) (l : List UInt8), n ≤ 65535 → (cntR n l).1 ≤ 65535
  | _, [], h => by simpa [cntR] using h
  | n, c :: r, h => by
    unfold cntR
    split
    · exact cntR_le _ r (by omega)
    · exact h
/-- What is ahead of the next semicolon, and what is behind it. -/
def semR (l : List UInt8) : List UInt8 × List UInt8 := (l.takeWhile (· ≠ 59), (l.dropWhile (· ≠ 59)).drop 1)
/-- A repeat behind its digits. -/
def bangR (n : Nat) : List UInt8 → Option (List UInt8 × Nat × List UInt8)
  | [] => none
  | s :: u => if s = 59 then (hexR (semR u).1).map fun b => (b, max n 1, (semR u).2) else none
/-- Two digits. -/
def twoR (c : UInt8) : List UInt8 → Option (List UInt8 × Nat × List UInt8)
  | [] => none
  | d :: u => (hexR [c, d]).map fun b => (b, 1, u)
/-- The piece at the beginning: its bytes, how often they come, what is behind. -/
def pieceR : List UInt8 → Option (List UInt8 × Nat × List UInt8)
  | [] => none
  | c :: r => if c = 33 then bangR (cntR 0 r).1 (cntR 0 r).2 else twoR c r
theorem piece_bang (r : List UInt8) : pieceR (33 :: r) = bangR (cntR 0 r).1 (cntR 0 r).2 := rfl
theorem piece_two (c : UInt8) (r : List UInt8) (h : c ≠ 33) : pieceR (c :: r) = twoR c r := by simp only [pieceR, if_neg h]
theorem semR_len (l : List UInt8) : (semR l).2.length ≤ l.length := by
  unfold semR
  have := (List.dropWhile_suffix (p := fun x : UInt8 => decide (x ≠ 59)) (l := l)).length_le
  simp only [List.length_drop]; omega
theorem pieceR_len {l b rest : List UInt8} {n : Nat} (h : pieceR l = some (b, n, rest)) : rest.length < l.length ∧ 1 ≤ n ∧ n ≤ 65535 := by
  match l, h with
  | c :: r, h =>
    by_cases hc : c = 33
    · subst hc
      rw [piece_bang] at h
      have h1 := cntR_len 0 r
      have h2 := cntR_le 0 r (by omega)
      generalize (cntR 0 r).2 = t at h h1
      match t, h with
      | s :: u, h =>
        simp only [bangR] at h
        split at h
        · obtain ⟨b', _, h'⟩ := Option.map_eq_some_iff.1 h
          simp only [Prod.mk.injEq] at h'
          obtain ⟨_, rfl, rfl⟩ := h'
          have := semR_len u
          simp at h1 ⊢; omega
        · cases h
    · rw [piece_two _ _ hc] at h
      match r, h with
      | d :: u, h =>
        obtain ⟨b', _, h'⟩ := Option.map_eq_some_iff.1 h
        simp only [Prod.mk.injEq] at h'
        obtain ⟨_, rfl, rfl⟩ := h'
        simp; omega
/-- Bytes so often. -/
def repR (n : Nat) (b : List UInt8) : List UInt8 := (List.replicate n b).flatten
theorem repR_len (n : Nat) (b : List UInt8) : (repR n b).length = n * b.length := by
  unfold repR; simp
theorem repR_nil (n : Nat) : repR n [] = [] := by unfold repR; simp
theorem repR_one (b : List UInt8) : repR 1 b = b := by unfold repR; simp
theorem repR_succ (n : Nat) (b : List UInt8) : repR (n + 1) b = repR n b ++ b := by
  unfold repR; rw [List.replicate_succ']; simp
/-- A text decoded, behind what has come: its bytes and an error's number. -/
def decMF : Nat → List UInt8 → Nat → List UInt8 → List UInt8 × Int
  | 0, _, _, o => (o, 0)
  | f + 1, l, most, o => if l = [] then (o, 0) else
    match pieceR l with
    | none => ([], 3)
    | some (b, n, rest) => if most < o.length + n * b.length then ([], 5) else decMF f rest most (o ++ repR n b)
theorem decMF_fuel : ∀ (f g : Nat) (l : List UInt8) (most : Nat) (o : List UInt8), l.length ≤ f → l.length ≤ g → decMF f l most o = decMF g l most o
  | 0, g, l, most, o, hf, hg => by
    have : l = [] := List.eq_nil_of_length_eq_zero (by omega)
    subst this
    cases g <;> simp [decMF]
  | f + 1, 0, l, most, o, hf, hg => by
    have : l = [] := List.eq_nil_of_length_eq_zero (by omega)
    subst this
    simp [decMF]
  | f + 1, g + 1, l, most, o, hf, hg => by
    unfold decMF
    split
    · rfl
    · split
      · rfl
      · rename_i b n rest hp
        have := (pieceR_len hp).1
        split
        · rfl
        · exact decMF_fuel f g rest most _ (by omega) (by omega)
def decR (l : List UInt8) (most : Nat) (o : List UInt8) : List UInt8 × Int := decMF l.length l most o
theorem decR_bad {l : List UInt8} (most : Nat) (o : List UInt8) (hl : l ≠ []) (h : pieceR l = none) : decR l most o = ([], 3) := by
  unfold decR
  match l, hl with
  | c :: r, _ => simp [decMF, h]
theorem decR_full {l b rest : List UInt8} {n : Nat} (most : Nat) (o : List UInt8) (h : pieceR l = some (b, n, rest)) (hm : most < o.length + n * b.length) : decR l most o = ([], 5) := by
  unfold decR
  match l, h with
  | c :: r, h => simp [decMF, h, hm]
theorem decR_next {l b rest : List UInt8} {n : Nat} (most : Nat) (o : List UInt8) (h : pieceR l = some (b, n, rest)) (hm : ¬ most < o.length + n * b.length) : decR l most o = decR rest most (o ++ repR n b) := by
  unfold decR
  have := (pieceR_len h).1
  match l, h with
  | c :: r, h =>
    simp only [List.length_cons, decMF, h]
    rw [if_neg (by simp), if_neg hm]
    exact decMF_fuel _ _ _ _ _ (by simp at this; omega) (Nat.le_refl _)
/-! ### Digits of bytes -/
end Go.Proofs.Ytaeppimldbknhaa
