/-
  Digits and repeats: the plain law (what a text of a macro decodes to).
-/
import Derived.Lib.Strings
namespace Go.Proofs.Ytaeppimldbknhaa
set_option linter.unusedSimpArgs false
set_option linter.unusedVariables false
set_option linter.unusedVariables false

/-- A hexadecimal digit's number. -/
def digR (c : UInt8) : Option Nat :=
  if 48 ≤ c.toNat ∧ c.toNat ≤ 57 then some (c.toNat - 48) else if 65 ≤ c.toNat ∧ c.toNat ≤ 70 then some (c.toNat - 55) else if 97 ≤ c.toNat ∧ c.toNat ≤ 102 then some (c.toNat - 87) else none
theorem digR_lt {c : UInt8} {n : Nat} (h : digR c = some n) : n < 16 := by
  unfold digR at h
  split at h
  · injection h; omega
  · split at h
    · injection h; omega
    · split at h
      · injection h; omega
      · cases h
/-- Bytes out of hexadecimal digits. -/
def hexR : List UInt8 → Option (List UInt8)
  | [] => some []
  | [_] => none
  | a :: b :: r => match digR a, digR b with
    | some x, some y => (hexR r).map (UInt8.ofNat (16 * x + y) :: ·)
    | _, _ => none
theorem hexR_len : ∀ {l o : List UInt8}, hexR l = some o → l.length = 2 * o.length
  | [], o, h => by simp [hexR] at h; subst h; rfl
  | [_], o, h => by simp [hexR] at h
  | a :: b :: r, o, h => by
    unfold hexR at h
    split at h
    · obtain ⟨o', h', rfl⟩ := Option.map_eq_some_iff.1 h
      have := hexR_len h'
      simp; omega
    · cases h
theorem hexR_even : ∀ {l : List UInt8}, l.length % 2 = 1 → hexR l = none
  | [], h => by simp at h
  | [_], _ => rfl
  | a :: b :: r, h => by
    unfold hexR
    split
    · rw [hexR_even (by simp at h; omega)]; rfl
    · rfl
/-- Digits as a number, and what is behind. -/
def cntR : Nat → List UInt8 → Nat × List UInt8
  | n, [] => (n, [])
  | n, c :: r => if 48 ≤ c.toNat ∧ c.toNat ≤ 57 then cntR (min (n * 10 + (c.toNat - 48)) 65535) r else (n, c :: r)
theorem cntR_len : ∀ (n : Nat) (l : List UInt8), (cntR n l).2.length ≤ l.length
  | _, [] => by simp [cntR]
  | n, c :: r => by
    unfold cntR
    split
    · have := cntR_len (min (n * 10 + (c.toNat - 48)) 65535) r; simp; omega
    · simp
theorem cntR_le : ∀ (n : Nat) (l : List UInt8), n ≤ 65535 → (cntR n l).1 ≤ 65535
  | _, [], h => by simpa [cntR] using h
  | n, c :: r, h => by
    unfold cntR
    split
    · exact cntR_le _ r (by omega)
    · exact h
/-- What is ahead of the next semicolon, and what is behind it. -/
def semR (l : List UInt8) : List UInt8 × List UInt8 := (l.takeWhile (· ≠ 59), (l.dropWhile (· ≠ 59)).drop 1)
/-- A repeat behind its digits. -/
def bangR (n : Nat) : List UInt8 → Option (List UInt8 × Nat × List UInt8)
  | [] => none
  | s :: u => if s = 59 then (hexR (semR u).1).map fun b => (b, max n 1, (semR u).2) else none
/-- Two digits. -/
def twoR (c : UInt8) : List UInt8 → Option (List UInt8 × Nat × List UInt8)
  | [] => none
  | d :: u => (hexR [c, d]).map fun b => (b, 1, u)
/-- The piece at the beginning: its bytes, how often they come, what is behind. -/
def pieceR : List UInt8 → Option (List UInt8 × Nat × List UInt8)
  | [] => none
  | c :: r => if c = 33 then bangR (cntR 0 r).1 (cntR 0 r).2 else twoR c r
theorem piece_bang (r : List UInt8) : pieceR (33 :: r) = bangR (cntR 0 r).1 (cntR 0 r).2 := rfl
theorem piece_two (c : UInt8) (r : List UInt8) (h : c ≠ 33) : pieceR (c :: r) = twoR c r := by simp only [pieceR, if_neg h]
theorem semR_len (l : List UInt8) : (semR l).2.length ≤ l.length := by
  unfold semR
  have := (List.dropWhile_suffix (p := fun x : UInt8 => decide (x ≠ 59)) (l := l)).length_le
  simp only [List.length_drop]; omega
theorem pieceR_len {l b rest : List UInt8} {n : Nat} (h : pieceR l = some (b, n, rest)) : rest.length < l.length ∧ 1 ≤ n ∧ n ≤ 65535 := by
  match l, h with
  | c :: r, h =>
    by_cases hc : c = 33
    · subst hc
      rw [piece_bang] at h
      have h1 := cntR_len 0 r
      have h2 := cntR_le 0 r (by omega)
      generalize (cntR 0 r).2 = t at h h1
      match t, h with
      | s :: u, h =>
        simp only [bangR] at h
        split at h
        · obtain ⟨b', _, h'⟩ := Option.map_eq_some_iff.1 h
          simp only [Prod.mk.injEq] at h'
          obtain ⟨_, rfl, rfl⟩ := h'
          have := semR_len u
          simp at h1 ⊢; omega
        · cases h
    · rw [piece_two _ _ hc] at h
      match r, h with
      | d :: u, h =>
        obtain ⟨b', _, h'⟩ := Option.map_eq_some_iff.1 h
        simp only [Prod.mk.injEq] at h'
        obtain ⟨_, rfl, rfl⟩ := h'
        simp; omega
/-- Bytes so often. -/
def repR (n : Nat) (b : List UInt8) : List UInt8 := (List.replicate n b).flatten
theorem repR_len (n : Nat) (b : List UInt8) : (repR n b).length = n * b.length := by
  unfold repR; simp
theorem repR_nil (n : Nat) : repR n [] = [] := by unfold repR; simp
theorem repR_one (b : List UInt8) : repR 1 b = b := by unfold repR; simp
theorem repR_succ (n : Nat) (b : List UInt8) : repR (n + 1) b = repR n b ++ b := by
  unfold repR; rw [List.replicate_succ']; simp
/-- A text decoded, behind what has come: its bytes and an error's number. -/
def decF : Nat → List UInt8 → Nat → List UInt8 → List UInt8 × Int
  | 0, _, _, o => (o, 0)
  | f + 1, l, most, o => if l = [] then (o, 0) else
    match pieceR l with
    | none => ([], 3)
    | some (b, n, rest) => if most < o.length + n * b.length then ([], 5) else decF f rest most (o ++ repR n b)
theorem decF_fuel : ∀ (f g : Nat) (l : List UInt8) (most : Nat) (o : List UInt8), l.length ≤ f → l.length ≤ g → decF f l most o = decF g l most o
  | 0, g, l, most, o, hf, hg => by
    have : l = [] := List.eq_nil_of_length_eq_zero (by omega)
    subst this
    cases g <;> simp [decF]
  | f + 1, 0, l, most, o, hf, hg => by
    have : l = [] := List.eq_nil_of_length_eq_zero (by omega)
    subst this
    simp [decF]
  | f + 1, g + 1, l, most, o, hf, hg => by
    unfold decF
    split
    · rfl
    · split
      · rfl
      · rename_i b n rest hp
        have := (pieceR_len hp).1
        split
        · rfl
        · exact decF_fuel f g rest most _ (by omega) (by omega)
def decR (l : List UInt8) (most : Nat) (o : List UInt8) : List UInt8 × Int := decF l.length l most o
theorem decR_nil (most : Nat) (o : List UInt8) : decR [] most o = (o, 0) := rfl
theorem decR_bad {l : List UInt8} (most : Nat) (o : List UInt8) (hl : l ≠ []) (h : pieceR l = none) : decR l most o = ([], 3) := by
  unfold decR
  match l, hl with
  | c :: r, _ => simp [decF, h]
theorem decR_full {l b rest : List UInt8} {n : Nat} (most : Nat) (o : List UInt8) (h : pieceR l = some (b, n, rest)) (hm : most < o.length + n * b.length) : decR l most o = ([], 5) := by
  unfold decR
  match l, h with
  | c :: r, h => simp [decF, h, hm]
theorem decR_next {l b rest : List UInt8} {n : Nat} (most : Nat) (o : List UInt8) (h : pieceR l = some (b, n, rest)) (hm : ¬ most < o.length + n * b.length) : decR l most o = decR rest most (o ++ repR n b) := by
  unfold decR
  have := (pieceR_len h).1
  match l, h with
  | c :: r, h =>
    simp only [List.length_cons, decF, h]
    rw [if_neg (by simp), if_neg hm]
    exact decF_fuel _ _ _ _ _ (by simp at this; omega) (Nat.le_refl _)
theorem decF_le : ∀ (f : Nat) (l : List UInt8) (most : Nat) (o : List UInt8), o.length ≤ most → (decF f l most o).1.length ≤ most
  | 0, l, most, o, h => h
  | f + 1, l, most, o, h => by
    unfold decF
    split
    · exact h
    · split
      · simp
      · split
        · simp
        · rename_i b n rest _ hm
          exact decF_le f _ most _ (by rw [List.length_append, repR_len]; omega)
theorem decR_le (l : List UInt8) (most : Nat) (o : List UInt8) (h : o.length ≤ most) : (decR l most o).1.length ≤ most := decF_le _ _ _ _ h

/-! ### Digits of bytes -/
def digB (n : Nat) : UInt8 := if n < 10 then UInt8.ofNat (48 + n) else UInt8.ofNat (55 + n)
def hexB (l : List UInt8) : List UInt8 := l.flatMap fun c => [digB (c.toNat / 16), digB (c.toNat % 16)]
theorem digB_facts : ∀ n : Fin 16, digR (digB n.val) = some n.val ∧ digB n.val ≠ 33 ∧ digB n.val ≠ 59 ∧ ¬ digB n.val = 47 := by decide +kernel
theorem dig_back (n : Nat) (h : n < 16) : digR (digB n) = some n := (digB_facts ⟨n, h⟩).1
theorem hex_pair (c : UInt8) : hexR [digB (c.toNat / 16), digB (c.toNat % 16)] = some [c] := by
  have hc := c.toNat_lt
  unfold hexR
  rw [dig_back _ (by omega), dig_back _ (by omega)]
  simp only [hexR, Option.map_some, Option.some.injEq, List.cons.injEq, and_true]
  rw [Nat.div_add_mod]; simp
theorem hexB_len (l : List UInt8) : (hexB l).length = 2 * l.length := by
  induction l with
  | nil => rfl
  | cons c l ih => simp [hexB] at ih ⊢; omega
theorem hexB_cons (c : UInt8) (l : List UInt8) : hexB (c :: l) = digB (c.toNat / 16) :: digB (c.toNat % 16) :: hexB l := rfl
theorem hexB_snoc (l : List UInt8) (c : UInt8) : hexB (l ++ [c]) = hexB l ++ [digB (c.toNat / 16), digB (c.toNat % 16)] := by simp [hexB]
theorem hex_back (l : List UInt8) : hexR (hexB l) = some l := by
  induction l with
  | nil => rfl
  | cons c l ih =>
    have hc := c.toNat_lt
    rw [hexB_cons]
    unfold hexR
    rw [dig_back _ (by omega), dig_back _ (by omega)]
    simp only [ih, Option.map_some, Option.some.injEq, List.cons.injEq, and_true]
    rw [Nat.div_add_mod]; simp
theorem hexB_no (l : List UInt8) : ∀ x ∈ hexB l, x ≠ 59 ∧ x ≠ 33 := by
  intro x hx
  simp only [hexB, List.mem_flatMap] at hx
  obtain ⟨c, _, hx⟩ := hx
  have hc := c.toNat_lt
  have h1 := digB_facts ⟨c.toNat / 16, by omega⟩
  have h2 := digB_facts ⟨c.toNat % 16, by omega⟩
  simp at hx
  rcases hx with rfl | rfl
  · exact ⟨h1.2.2.1, h1.2.1⟩
  · exact ⟨h2.2.2.1, h2.2.1⟩
/-- Plain digits read back. -/
theorem dec_hex : ∀ (l : List UInt8) (most : Nat) (o : List UInt8), decR (hexB l) most o = if l.length ≤ most - o.length ∧ o.length + l.length ≤ most ∨ l = [] then (o ++ l, 0) else ([], 5) := by
  intro l
  induction l with
  | nil => intro most o; simp [hexB, decR_nil]
  | cons c l ih =>
    intro most o
    have hc := c.toNat_lt
    have hp : pieceR (hexB (c :: l)) = some ([c], 1, hexB l) := by
      rw [hexB_cons, piece_two _ _ (digB_facts ⟨c.toNat / 16, by omega⟩).2.1]
      simp only [twoR, hex_pair, Option.map_some]
    by_cases hm : most < o.length + 1 * [c].length
    · rw [decR_full most o hp hm, if_neg (by simp at hm ⊢; omega)]
    · rw [decR_next most o hp hm, ih, repR_one]
      simp only [List.length_append, List.length_cons, List.length_nil, Nat.one_mul] at hm ⊢
      by_cases hl : o.length + (l.length + 1) ≤ most
      · rw [if_pos (by omega), if_pos (by omega)]; simp
      · rw [if_neg (by
          rintro (h | rfl)
          · omega
          · simp at hl; omega), if_neg (by simp; omega)]
theorem takeWhile_no {l t : List UInt8} (h : ∀ x ∈ l, x ≠ 59) : semR (l ++ 59 :: t) = (l, t) := by
  unfold semR
  induction l with
  | nil => simp
  | cons c l ih =>
    have hc := h c (by simp)
    have := ih (fun x hx => h x (by simp [hx]))
    simp only [Prod.mk.injEq] at this ⊢
    simp [List.takeWhile_cons, List.dropWhile_cons, hc]
    simpa using this
/-- A repeat read back. -/
theorem dec_rep (n : Nat) (l t : List UInt8) (most : Nat) (o : List UInt8) (hn : 1 ≤ n) (h9 : n ≤ 9) (hm : o.length + n * l.length ≤ most) :
    decR (33 :: UInt8.ofNat (48 + n) :: 59 :: (hexB l ++ 59 :: t)) most o = decR t most (o ++ repR n l) := by
  have hp : pieceR (33 :: UInt8.ofNat (48 + n) :: 59 :: (hexB l ++ 59 :: t)) = some (l, n, t) := by
    rw [piece_bang]
    have e1 : cntR 0 (UInt8.ofNat (48 + n) :: 59 :: (hexB l ++ 59 :: t)) = (n, 59 :: (hexB l ++ 59 :: t)) := by
      have hd : (UInt8.ofNat (48 + n)).toNat = 48 + n := by simp; omega
      unfold cntR
      rw [hd, if_pos (by omega)]
      unfold cntR
      rw [if_neg (by decide)]
      simp; omega
    rw [e1]
    simp only [bangR, if_true]
    rw [takeWhile_no (fun x hx => (hexB_no l x hx).1), hex_back]
    simp; omega
  exact decR_next most o hp (by omega)
end Go.Proofs.Ytaeppimldbknhaa
