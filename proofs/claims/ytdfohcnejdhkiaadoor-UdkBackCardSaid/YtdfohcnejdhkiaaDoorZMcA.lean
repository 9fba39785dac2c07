/-
  Digits and repeats: the plain law (what a text of a macro decodes to).
-/
import Derived.Lib.Strings
namespace Go.Proofs.YtdfohcnejdhkiaaDoor
set_option linter.unusedSimpArgs false
set_option linter.unusedVariables false
set_option linter.unusedVariables false

/-- A hexadecimal digit's number. -/
def digR (c : UInt8) : Option Nat :=
  if 48 ≤ c.toNat ∧ c.toNat ≤ 57 then some (c.toNat - 48) else if 65 ≤ c.toNat ∧ c.toNat ≤ 70 then some (c.toNat - 55) else if 97 ≤ c.toNat ∧ c.toNat ≤ 102 then some (c.toNat - 87) else none
theorem digR_lt {c : UInt8} {n : Nat} (h : digR c = some n) : n < 16 := by
  unfold digR at h
  split at h
  · injection h; omega
  · split at h
    · injection h; omega
    · split at h
      · injection h; omega
      · cases h
/-- Bytes out of hexadecimal digits. -/
def hexR : List UInt8 → Option (List UInt8)
  | [] => some []
  | [_] => none
  | a :: b :: r => match digR a, digR b with
    | some x, some y => (hexR r).map (UInt8.ofNat (16 * x + y) :: ·)
    | _, _ => none
theorem hexR_len : ∀ {l o : List UInt8}, hexR l = some o → l.length = 2 * o.length
  | [], o, h => by simp [hexR] at h; subst h; rfl
  | [_], o, h => by simp [hexR] at h
  | a :: b :: r, o, h => by
    unfold hexR at h
    split at h
    · obtain ⟨o', h', rfl⟩ := Option.map_eq_some_iff.1 h
      have := hexR_len h'
      simp; omega
    · cases h
theorem hexR_even : ∀ {l : List UInt8}, l.length % 2 = 1 → hexR l = none
  | [], h => by simp at h
  | [_], _ => rfl
  | a :: b :: r, h => by
    unfold hexR
    split
    · rw [hexR_even (by simp at h; omega)]; rfl
    · rfl
/-! ### Digits of bytes -/
def digB (n : Nat) : UInt8 := if n < 10 then UInt8.ofNat (48 + n) else UInt8.ofNat (55 + n)
def hexB (l : List UInt8) : List UInt8 := l.flatMap fun c => [digB (c.toNat / 16), digB (c.toNat % 16)]
theorem digB_facts : ∀ n : Fin 16, digR (digB n.val) = some n.val ∧ digB n.val ≠ 33 ∧ digB n.val ≠ 59 ∧ ¬ digB n.val = 47 := by decide +kernel
theorem dig_back (n : Nat) (h : n < 16) : digR (digB n) = some n := (digB_facts ⟨n, h⟩).1
theorem hexB_len (l : List UInt8) : (hexB l).length = 2 * l.length := by
  induction l with
  | nil => rfl
  | cons c l ih => simp [hexB] at ih ⊢; omega
theorem hexB_cons (c : UInt8) (l : List UInt8) : hexB (c :: l) = digB (c.toNat / 16) :: digB (c.toNat % 16) :: hexB l := rfl
theorem hexB_snoc (l : List UInt8) (c : UInt8) : hexB (l ++ [c]) = hexB l ++ [digB (c.toNat / 16), digB (c.toNat % 16)] := by simp [hexB]
theorem hex_back (l : List UInt8) : hexR (hexB l) = some l := by
  induction l with
  | nil => rfl
  | cons c l ih =>
    have hc := c.toNat_lt
    rw [hexB_cons]
    unfold hexR
    rw [dig_back _ (by omega), dig_back _ (by omega)]
    simp only [ih, Option.map_some, Option.some.injEq, List.cons.injEq, and_true]
    rw [Nat.div_add_mod]; simp
end Go.Proofs.YtdfohcnejdhkiaaDoor
