/-
  The bytes of a token in plain terms, and that the machine reads them back.
-/
import Derived.Lib.ItoaNum
import Derived.Test.YtonbnmicgmnliaaGreatDoorZPdT
namespace Go.Proofs.YtonbnmicgmnliaaGreatDoor
set_option linter.unusedSimpArgs false
set_option linter.unusedVariables false

/-- A numeral's digits. -/
def digs (n : Int) : List Int := (Lib.decDigits n.toNat).map fun b => (b.toNat : Int)
def clipR (n : Int) : Int := if n < 0 then 0 else if 65535 < n then 65535 else n
/-- Numbers between semicolons. -/
def fmtGo : List Int → List Int
  | [] => []
  | [n] => digs (clipR n)
  | n :: l => digs (clipR n) ++ 59 :: fmtGo l
def fmtR (l : List Int) : List Int := fmtGo (l.take 30)
def pairR (c : Int) (eight : Bool) : List Int := if eight = true ∧ 64 ≤ c ∧ c < 96 then [c + 64] else [27, c]
def begR (k : Int) : Int := if k = 4 then 91 else if k = 5 then 80 else if k = 6 then 93 else if k = 7 then 88 else if k = 8 then 94 else if k = 9 then 95 else 0
def bytesR (t : Tok) (eight : Bool) : List Int :=
  if t.kind < 3 then [t.code]
  else if t.kind = 3 then (if t.inters = [] then pairR t.code eight else 27 :: t.inters ++ [t.code])
  else pairR (begR t.kind) eight ++ (if t.kind < 6 then (if t.mark ≠ 0 then [t.mark] else []) ++ fmtR t.params ++ t.inters ++ [t.code] else []) ++ (if 4 < t.kind then t.data ++ pairR 92 eight else [])

/-! ### Digits -/
theorem dig_cast (n : Nat) (h : n < 10) : ((UInt8.ofNat (48 + n)).toNat : Int) = 48 + (n : Int) := by
  rw [UInt8.toNat_ofNat']; omega
theorem digs_small (n : Nat) (h : n < 10) : digs n = [48 + (n : Int)] := by
  unfold digs; rw [Int.toNat_natCast, Lib.decDigits, dif_pos h]; simp only [List.map_cons, List.map_nil, dig_cast n h]
theorem digs_big (n : Nat) (h : ¬ n < 10) : digs n = digs ((n / 10 : Nat) : Int) ++ [48 + ((n % 10 : Nat) : Int)] := by
  unfold digs; rw [Int.toNat_natCast, Int.toNat_natCast, Lib.decDigits, dif_neg h, List.map_append]
  simp only [List.map_cons, List.map_nil, dig_cast (n % 10) (by omega)]
theorem digs_in (n : Nat) : ∀ c ∈ digs n, 48 ≤ c ∧ c ≤ 57 := by
  induction n using Nat.strongRecOn with
  | ind n ih =>
    by_cases h : n < 10
    · rw [digs_small n h]; intro c hc; simp at hc; omega
    · rw [digs_big n h]; intro c hc
      rcases List.mem_append.1 hc with hc | hc
      · exact ih (n / 10) (by omega) c hc
      · simp at hc; omega
/-! ### Numbers between semicolons -/
theorem clipR_in (n : Int) : 0 ≤ clipR n ∧ clipR n ≤ 65535 := by unfold clipR; split <;> (try split) <;> omega
theorem digs_in' {n : Int} (h : 0 ≤ n) : ∀ c ∈ digs n, 48 ≤ c ∧ c ≤ 57 := by
  obtain ⟨k, rfl⟩ : ∃ k : Nat, n = k := ⟨n.toNat, by omega⟩
  exact digs_in k
theorem fmtGo_in (l : List Int) : ∀ c ∈ fmtGo l, (48 ≤ c ∧ c ≤ 57) ∨ c = 59 := by
  induction l with
  | nil => simp [fmtGo]
  | cons n l ih =>
    have hd := digs_in' (clipR_in n).1
    cases l with
    | nil => intro c hc; have := hd c hc; omega
    | cons m l =>
      intro c hc
      simp only [fmtGo] at hc
      rcases List.mem_append.1 hc with hc | hc
      · have := hd c hc; omega
      · rcases List.mem_cons.1 hc with rfl | hc
        · omega
        · exact ih c hc
theorem fmtR_in2 (l : List Int) : ∀ c ∈ fmtR l, (48 ≤ c ∧ c ≤ 57) ∨ c = 59 := fmtGo_in _
theorem fmtR_in (l : List Int) : ∀ c ∈ fmtR l, 48 ≤ c ∧ c ≤ 59 := fun c hc => by have := fmtR_in2 l c hc; omega

/-! ### The machine reads a token's bytes back -/
end Go.Proofs.YtonbnmicgmnliaaGreatDoor
