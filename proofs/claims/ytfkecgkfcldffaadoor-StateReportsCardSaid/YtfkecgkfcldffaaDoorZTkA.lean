/-
  The bytes of a token in plain terms, and that the machine reads them back.
-/
import Derived.Lib.ItoaNum
import Derived.Test.YtfkecgkfcldffaaDoorZPdI
namespace Go.Proofs.YtfkecgkfcldffaaDoor
set_option linter.unusedSimpArgs false
set_option linter.unusedVariables false

/-- A numeral's digits. -/
def digs (n : Int) : List Int := (Lib.decDigits n.toNat).map fun b => (b.toNat : Int)
def clipR (n : Int) : Int := if n < 0 then 0 else if 65535 < n then 65535 else n
/-- Numbers between semicolons. -/
def fmtGo : List Int → List Int
  | [] => []
  | [n] => digs (clipR n)
  | n :: l => digs (clipR n) ++ 59 :: fmtGo l
def fmtR (l : List Int) : List Int := fmtGo (l.take 30)
/-! ### Digits -/
theorem dig_cast (n : Nat) (h : n < 10) : ((UInt8.ofNat (48 + n)).toNat : Int) = 48 + (n : Int) := by
  rw [UInt8.toNat_ofNat']; omega
theorem digs_small (n : Nat) (h : n < 10) : digs n = [48 + (n : Int)] := by
  unfold digs; rw [Int.toNat_natCast, Lib.decDigits, dif_pos h]; simp only [List.map_cons, List.map_nil, dig_cast n h]
theorem digs_big (n : Nat) (h : ¬ n < 10) : digs n = digs ((n / 10 : Nat) : Int) ++ [48 + ((n % 10 : Nat) : Int)] := by
  unfold digs; rw [Int.toNat_natCast, Int.toNat_natCast, Lib.decDigits, dif_neg h, List.map_append]
  simp only [List.map_cons, List.map_nil, dig_cast (n % 10) (by omega)]
theorem digs_in (n : Nat) : ∀ c ∈ digs n, 48 ≤ c ∧ c ≤ 57 := by
  induction n using Nat.strongRecOn with
  | ind n ih =>
    by_cases h : n < 10
    · rw [digs_small n h]; intro c hc; simp at hc; omega
    · rw [digs_big n h]; intro c hc
      rcases List.mem_append.1 hc with hc | hc
      · exact ih (n / 10) (by omega) c hc
      · simp at hc; omega
/-! ### Numbers between semicolons -/
theorem clipR_id {n : Int} (h0 : 0 ≤ n) (h1 : n ≤ 65535) : clipR n = n := by unfold clipR; rw [if_neg (by omega), if_neg (by omega)]
theorem clipR_in (n : Int) : 0 ≤ clipR n ∧ clipR n ≤ 65535 := by unfold clipR; split <;> (try split) <;> omega
theorem digs_in' {n : Int} (h : 0 ≤ n) : ∀ c ∈ digs n, 48 ≤ c ∧ c ≤ 57 := by
  obtain ⟨k, rfl⟩ : ∃ k : Nat, n = k := ⟨n.toNat, by omega⟩
  exact digs_in k
theorem fmtGo_in (l : List Int) : ∀ c ∈ fmtGo l, (48 ≤ c ∧ c ≤ 57) ∨ c = 59 := by
  induction l with
  | nil => simp [fmtGo]
  | cons n l ih =>
    have hd := digs_in' (clipR_in n).1
    cases l with
    | nil => intro c hc; have := hd c hc; omega
    | cons m l =>
      intro c hc
      simp only [fmtGo] at hc
      rcases List.mem_append.1 hc with hc | hc
      · have := hd c hc; omega
      · rcases List.mem_cons.1 hc with rfl | hc
        · omega
        · exact ih c hc
/-! ### The machine reads a token's bytes back -/
end Go.Proofs.YtfkecgkfcldffaaDoor
