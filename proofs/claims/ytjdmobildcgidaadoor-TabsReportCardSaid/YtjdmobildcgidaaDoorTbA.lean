/-
  Tab stops: the plain law on bits.
-/
import Derived.Lib.Strings
namespace Go.Proofs.YtjdmobildcgidaaDoor
set_option linter.unusedSimpArgs false
set_option linter.unusedVariables false
set_option linter.unusedVariables false

/-- The first stops as a number. -/
def bitsN (f : Nat → Bool) : Nat → Nat
  | 0 => 0
  | n + 1 => 2 ^ n * (f n).toNat + bitsN f n
theorem bitsN_lt (f : Nat → Bool) : ∀ n, bitsN f n < 2 ^ n
  | 0 => by simp [bitsN]
  | n + 1 => by
    have := bitsN_lt f n
    simp only [bitsN, Nat.pow_succ]
    cases f n <;> simp <;> omega
theorem bitsN_bit (f : Nat → Bool) : ∀ n j, (bitsN f n).testBit j = (decide (j < n) && f j)
  | 0, j => by simp [bitsN]
  | n + 1, j => by
    rw [bitsN, Nat.testBit_two_pow_mul_add _ (bitsN_lt f n), bitsN_bit f n j]
    by_cases h : j < n
    · simp [h]; omega
    · rw [if_neg h]
      by_cases h2 : j = n
      · subst h2; cases f j <;> simp
      · obtain ⟨d, hd⟩ : ∃ d, j - n = d + 1 := ⟨j - n - 1, by omega⟩
        rw [hd, Nat.testBit_succ]
        have : ¬ j < n + 1 := by omega
        cases f n <;> simp [this]
/-- Sixty-four stops as a word. -/
def wordF (f : Nat → Bool) (i : Nat) : Nat := bitsN (fun j => f (64 * i + j)) 64
theorem word_bit (f : Nat → Bool) (i j : Nat) : (wordF f i).testBit j = (decide (j < 64) && f (64 * i + j)) := bitsN_bit _ _ _
theorem word_lt (f : Nat → Bool) (i : Nat) : wordF f i < 18446744073709551616 := bitsN_lt _ _
theorem word_congr {f g : Nat → Bool} {i : Nat} (h : ∀ j, j < 64 → f (64 * i + j) = g (64 * i + j)) : wordF f i = wordF g i := by
  apply Nat.eq_of_testBit_eq
  intro j
  rw [word_bit, word_bit]
  by_cases hj : j < 64
  · rw [h j hj]
  · simp [hj]
/-- A stop set or cleared. -/
def upd (f : Nat → Bool) (c : Nat) (b : Bool) : Nat → Bool := fun x => if x = c then b else f x
theorem word_other (f : Nat → Bool) (c i : Nat) (b : Bool) (h : i ≠ c / 64) : wordF (upd f c b) i = wordF f i :=
  word_congr fun j hj => by unfold upd; rw [if_neg (by omega)]
theorem word_set (f : Nat → Bool) (c : Nat) : wordF (upd f c true) (c / 64) = wordF f (c / 64) ||| 2 ^ (c % 64) := by
  apply Nat.eq_of_testBit_eq
  intro j
  rw [Nat.testBit_or, word_bit, word_bit, Nat.testBit_two_pow]
  by_cases hj : j < 64
  · unfold upd
    by_cases he : c % 64 = j
    · rw [if_pos (by omega)]; simp [hj, he]
    · rw [if_neg (by omega)]; simp [hj, he]
  · have : ¬ c % 64 = j := by omega
    simp [hj, this]
theorem word_clear (f : Nat → Bool) (c : Nat) : wordF (upd f c false) (c / 64) = wordF f (c / 64) &&& (18446744073709551615 - 2 ^ (c % 64)) := by
  apply Nat.eq_of_testBit_eq
  intro j
  have hp : 2 ^ (c % 64) < 2 ^ 64 := Nat.pow_lt_pow_right (by omega) (by omega)
  have e : 18446744073709551615 - 2 ^ (c % 64) = 2 ^ 64 - (2 ^ (c % 64) + 1) := by omega
  rw [e, Nat.testBit_and, word_bit, word_bit, Nat.testBit_two_pow_sub_succ hp, Nat.testBit_two_pow]
  by_cases hj : j < 64
  · unfold upd
    by_cases he : c % 64 = j
    · rw [if_pos (by omega)]; simp [hj, he]
    · rw [if_neg (by omega)]; simp [hj, he]
  · simp [hj]
theorem word_has (f : Nat → Bool) (c : Nat) : wordF f (c / 64) / 2 ^ (c % 64) % 2 = (f c).toNat := by
  have h := word_bit f (c / 64) (c % 64)
  rw [Nat.testBit_eq_decide_div_mod_eq] at h
  have e : 64 * (c / 64) + c % 64 = c := by omega
  rw [e] at h
  have h2 : c % 64 < 64 := by omega
  simp only [h2, decide_true, Bool.true_and] at h
  have hm : wordF f (c / 64) / 2 ^ (c % 64) % 2 < 2 := by omega
  cases hf : f c
  · rw [hf] at h; simp at h ⊢; omega
  · rw [hf] at h; simp at h ⊢; omega

/-! ### The least bit -/
/-- The places of a number's bits, from a place on. -/
def onesF (b : Nat) : Nat → List Nat
  | 0 => []
  | n + 1 => if b.testBit (64 - (n + 1)) then (64 - (n + 1)) :: onesF b n else onesF b n
theorem low_split (b t : Nat) (h : b.testBit t = true) (hl : ∀ j, j < t → b.testBit j = false) : ∀ j, (b &&& (b - 1)).testBit j = (b.testBit j && decide (j ≠ t)) := by
  have hmod : b % 2 ^ t = 0 := by
    apply Nat.eq_of_testBit_eq
    intro j
    rw [Nat.testBit_mod_two_pow]
    by_cases hj : j < t
    · simp [hl j hj]
    · simp [hj]
  obtain ⟨q, hq⟩ : ∃ q, b = 2 ^ t * q := ⟨b / 2 ^ t, by have := Nat.div_add_mod b (2 ^ t); omega⟩
  have hodd : q % 2 = 1 := by
    rw [hq, Nat.testBit_two_pow_mul] at h
    simp only [ge_iff_le, Nat.le_refl, decide_true, Nat.sub_self, Bool.true_and] at h
    simpa [Nat.testBit_zero] using h
  have hpos : 0 < 2 ^ t := Nat.two_pow_pos t
  have hb1 : b - 1 = 2 ^ t * (q - 1) + (2 ^ t - 1) := by
    obtain ⟨m, rfl⟩ : ∃ m, q = m + 1 := ⟨q - 1, by omega⟩
    rw [hq, Nat.mul_succ]; simp; omega
  intro j
  rw [Nat.testBit_and, hb1, Nat.testBit_two_pow_mul_add _ (by omega)]
  by_cases hj : j < t
  · simp [hl j hj]
  · rw [if_neg hj]
    by_cases he : j = t
    · subst he
      simp only [Nat.sub_self, ne_eq, not_true, decide_false, Bool.and_false]
      have : (q - 1).testBit 0 = false := by rw [Nat.testBit_zero]; simp; omega
      rw [this, Bool.and_false]
    · have hjt : b.testBit j = (q - 1).testBit (j - t) := by
        rw [hq, Nat.testBit_two_pow_mul]
        have h1 : t ≤ j := by omega
        simp only [ge_iff_le, h1, decide_true, Bool.true_and]
        obtain ⟨d, hd⟩ : ∃ d, j - t = d + 1 := ⟨j - t - 1, by omega⟩
        rw [hd, Nat.testBit_succ, Nat.testBit_succ]
        congr 1
        omega
      rw [← hjt]
      simp [he]
end Go.Proofs.YtjdmobildcgidaaDoor
