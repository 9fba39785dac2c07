/-
  Restoring sets out of what was reported of them, in the document's text.
-/
import Derived.Test.YtfkecgkfcldffaaGreatDoorZIsQ
import Derived.Test.YtfkecgkfcldffaaGreatDoorZOrd5
namespace Go.Proofs.YtfkecgkfcldffaaGreatDoor
set_option linter.unusedSimpArgs false
set_option linter.unusedVariables false
open Go.RowKit
set_option linter.unusedVariables false

def wideK (sz : Int) (k : Nat) : Bool := decide ((sz - 64) / 2 ^ k % 2 = 1)
def bsl (l : List UInt8) : ByteArray := ⟨l.toArray⟩
/-- What is restored after k sets, and how far the ids are read. -/
def rstS (sz : Int) (X : S7) (l : List UInt8) : Nat → Option (S7 × Nat)
  | 0 => some (X, 0)
  | k + 1 => (rstS sz X l k).bind fun p =>
    if l.length < p.2 + idN (l.drop p.2) then none
    else if desOk (wideK sz k) (bsl ((l.drop p.2).take (idN (l.drop p.2)))) k = true then some (doS 1 k (wideK sz k) (bsl ((l.drop p.2).take (idN (l.drop p.2)))) 0 p.1, p.2 + idN (l.drop p.2)) else none
def rstR (sz gl gr : Int) (X : S7) (l : List UInt8) : S7 × Bool :=
  if between 0 3 gl = true ∧ between 1 3 gr = true ∧ between 64 79 sz = true then
    match rstS sz X l 4 with
    | some (Z, a) => if a = l.length then ({ Z with a4 := gl, a5 := gr }, true) else (X, false)
    | none => (X, false)
  else (X, false)
theorem rstS_none {sz : Int} {X : S7} {l : List UInt8} {k : Nat} (h : rstS sz X l k = none) : ∀ j, k ≤ j → rstS sz X l j = none := by
  intro j hj
  induction j with
  | zero => have : k = 0 := by omega
            subst this; exact h
  | succ j ih =>
    by_cases e : k = j + 1
    · subst e; exact h
    · simp [rstS, ih (by omega)]
theorem rstS_le {sz : Int} {X : S7} {l : List UInt8} {k : Nat} : ∀ {Z : S7} {a : Nat}, rstS sz X l k = some (Z, a) → a ≤ l.length := by
  induction k with
  | zero => intro Z a h; simp [rstS] at h; omega
  | succ k ih =>
    intro Z a h
    rcases hp : rstS sz X l k with _ | ⟨Y, b⟩
    · simp [rstS, hp] at h
    · simp only [rstS, hp, Option.bind_some] at h
      split at h
      · cases h
      · split at h
        · simp only [Option.some.injEq, Prod.mk.injEq] at h; omega
        · cases h

theorem Gr.upd1 {w0 w w' : World} {p : Nat} (hg : Gr w0 w) (hu : Upd [p] w w') (hp : w0.heap.size ≤ p) : Gr w0 w' :=
  ⟨hu.os.trans hg.os, hu.tape.trans hg.tape, hu.output.trans hg.output, Nat.le_trans hg.size hu.size, fun k hk => (hu.block k (Nat.lt_of_lt_of_le hk hg.size) (by simp; omega)).trans (hg.block k hk)⟩
theorem Upd.transP {p : Nat} {w w' w'' : World} (h : Upd [p] w w') (h' : Upd [p] w' w'') : Upd [p] w w'' :=
  ⟨h'.os.trans h.os, h'.tape.trans h.tape, h'.output.trans h.output, Nat.le_trans h.size h'.size, fun k hk hn => (h'.block k (Nat.lt_of_lt_of_le hk h.size) hn).trans (h.block k hk hn)⟩
theorem Upd.gr1 {p : Nat} {w w' w'' : World} (h : Upd [p] w w') (hg : Gr w' w'') : Upd [p] w w'' :=
  ⟨hg.os.trans h.os, hg.tape.trans h.tape, hg.output.trans h.output, Nat.le_trans h.size hg.size, fun k hk hn => (hg.block k (Nat.lt_of_lt_of_le hk h.size)).trans (h.block k hk hn)⟩
theorem bsl_extract (l : List UInt8) (x y : Nat) : (bsl l).extract x y = bsl ((l.drop x).take (y - x)) := by
  unfold bsl
  apply ByteArray.ext
  simp [ByteArray.data_extract, List.extract_eq_take_drop]
theorem doS_des (k : Int) (wd : Bool) (id : ByteArray) (Z : S7) : doS 1 k wd id 0 Z = ⟨selI (desOk wd id k && decide (k = 0)) (findP wd id) Z.a0, selI (desOk wd id k && decide (k = 1)) (findP wd id) Z.a1, selI (desOk wd id k && decide (k = 2)) (findP wd id) Z.a2, selI (desOk wd id k && decide (k = 3)) (findP wd id) Z.a3, Z.a4, Z.a5, Z.a6⟩ := by unfold doS; rw [if_pos rfl]
def noD (_ _ : Nat) (_ _ : Value) : Prop := True

end Go.Proofs.YtfkecgkfcldffaaGreatDoor
