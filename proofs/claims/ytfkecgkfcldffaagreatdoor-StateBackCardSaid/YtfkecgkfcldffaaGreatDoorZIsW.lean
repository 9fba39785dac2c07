/-
  What is reported of four sets reads back: the plain law.
-/
import Derived.Test.YtfkecgkfcldffaaGreatDoorZIsV
namespace Go.Proofs.YtfkecgkfcldffaaGreatDoor
set_option linter.unusedSimpArgs false
set_option linter.unusedVariables false
open Go.RowKit
set_option linter.unusedVariables false

def idL (n : Int) : List UInt8 := (idOf n).data.toList
theorem idL_form (n : Int) (hn : between 1 17 n = true) : ((idL n).length = 2 ∧ (idL n).head? = some 37) ∨ ((idL n).length = 1 ∧ (idL n).head? ≠ some 37) :=
  fin17 (p := fun n => ((idL n).length = 2 ∧ (idL n).head? = some 37) ∨ ((idL n).length = 1 ∧ (idL n).head? ≠ some 37)) (by decide +kernel) n hn
theorem idN_front (n : Int) (hn : between 1 17 n = true) (r : List UInt8) : idN (idL n ++ r) = (idL n).length := by
  have h := idL_form n hn
  generalize idL n = d at h
  unfold idN Lib.hasPrefix
  match d, h with
  | [], h => simp at h
  | [c], h =>
    have hc : c ≠ 37 := by simpa using h
    simp [List.cons_prefix_cons]
    exact fun e => hc e.symm
  | [c, e], h =>
    have hc : c = 37 := by simpa using h
    subst hc
    simp [List.cons_prefix_cons]
  | _ :: _ :: _ :: _, h => simp at h
theorem wide5 (n : Int) (hn : between 1 17 n = true) : wideOf n = decide (n = 5) :=
  fin17 (p := fun n => wideOf n = decide (n = 5)) (by decide +kernel) n hn
theorem set_pos (n : Int) (hn : between 1 17 n = true) : n ≠ 0 := by simp [between] at hn; omega
/-- A set put in its place. -/
def putS (k : Nat) (n : Int) (Z : S7) : S7 := match k with | 0 => { Z with a0 := n } | 1 => { Z with a1 := n } | 2 => { Z with a2 := n } | _ => { Z with a3 := n }
theorem bsl_idL (n : Int) : bsl (idL n) = idOf n := rfl
theorem rstS_step {sz : Int} {X Z : S7} {pre r : List UInt8} {k : Nat} {n : Int} (h : rstS sz X (pre ++ (idL n ++ r)) k = some (Z, pre.length)) (hk : k < 4) (hn : between 1 17 n = true) (hw : wideK sz k = wideOf n) (h0 : k = 0 → wideOf n = false) :
    rstS sz X (pre ++ (idL n ++ r)) (k + 1) = some (putS k n Z, pre.length + (idL n).length) := by
  have e1 : (pre ++ (idL n ++ r)).drop pre.length = idL n ++ r := by simp
  have hf := find_back n hn
  simp only [rstS, h, Option.bind_some, e1, idN_front n hn r, hw]
  rw [if_neg (by simp)]
  have e2 : (idL n ++ r).take (idL n).length = idL n := by simp
  rw [e2, bsl_idL]
  have hp := set_pos n hn
  have hd : desOk (wideOf n) (idOf n) k = true := by
    unfold desOk
    rw [hf]
    rcases (by omega : k = 0 ∨ k = 1 ∨ k = 2 ∨ k = 3) with rfl | rfl | rfl | rfl
    · simp [hp, between, h0 rfl]
    · simp [hp, between]
    · simp [hp, between]
    · simp [hp, between]
  rw [if_pos hd, doS_des, hf, hd]
  rcases (by omega : k = 0 ∨ k = 1 ∨ k = 2 ∨ k = 3) with rfl | rfl | rfl | rfl <;> simp [putS, selI]
/-- The size byte out of four bits. -/
def sizeB (b0 b1 b2 b3 : Bool) : Int :=
  let s1 := selI b0 (bits BinOp.or IntKind.u8 64 (2 ^ 0)) 64
  let s2 := selI b1 (bits BinOp.or IntKind.u8 s1 (2 ^ 1)) s1
  let s3 := selI b2 (bits BinOp.or IntKind.u8 s2 (2 ^ 2)) s2
  selI b3 (bits BinOp.or IntKind.u8 s3 (2 ^ 3)) s3
theorem sizeB_wide : ∀ b0 b1 b2 b3 : Bool, wideK (sizeB b0 b1 b2 b3) 0 = b0 ∧ wideK (sizeB b0 b1 b2 b3) 1 = b1 ∧ wideK (sizeB b0 b1 b2 b3) 2 = b2 ∧ wideK (sizeB b0 b1 b2 b3) 3 = b3 ∧ between 64 79 (sizeB b0 b1 b2 b3) = true := by decide +kernel
theorem repSize_eq (g : Nat → Int) : repSize g 4 = sizeB (wideOf (g 0)) (wideOf (g 1)) (wideOf (g 2)) (wideOf (g 3)) := rfl
theorem rep_wide (g : Nat → Int) (k : Nat) (hk : k < 4) : wideK (repSize g 4) k = wideOf (g k) := by
  obtain ⟨h0, h1, h2, h3, _⟩ := sizeB_wide (wideOf (g 0)) (wideOf (g 1)) (wideOf (g 2)) (wideOf (g 3))
  rw [repSize_eq]
  rcases (by omega : k = 0 ∨ k = 1 ∨ k = 2 ∨ k = 3) with rfl | rfl | rfl | rfl
  · exact h0
  · exact h1
  · exact h2
  · exact h3
theorem rep_between (g : Nat → Int) : between 64 79 (repSize g 4) = true := by
  rw [repSize_eq]; exact (sizeB_wide _ _ _ _).2.2.2.2
theorem repIds_pre (g : Nat → Int) (j m : Nat) : ∃ t, repIds g (j + m) = repIds g j ++ t := by
  induction m with
  | zero => exact ⟨[], by simp⟩
  | succ m ih => obtain ⟨t, ht⟩ := ih; exact ⟨t ++ idL (g (j + m)), by rw [← Nat.add_assoc, repIds, ht, List.append_assoc]; rfl⟩
def putsS (g : Nat → Int) (X : S7) : Nat → S7
  | 0 => X
  | k + 1 => putS k (g k) (putsS g X k)
theorem rst_at (g : Nat → Int) (X : S7) (hg : ∀ k, k < 4 → between 1 17 (g k) = true) (h0 : wideOf (g 0) = false) (k : Nat) (hk : k ≤ 4) :
    rstS (repSize g 4) X (repIds g 4) k = some (putsS g X k, (repIds g k).length) := by
  induction k with
  | zero => rfl
  | succ k ih =>
    have ih := ih (by omega)
    obtain ⟨t, ht⟩ := repIds_pre g (k + 1) (4 - (k + 1))
    rw [show k + 1 + (4 - (k + 1)) = 4 by omega] at ht
    have ht2 : repIds g 4 = repIds g k ++ (idL (g k) ++ t) := by rw [ht]; show (repIds g k ++ idL (g k)) ++ t = _; rw [List.append_assoc]
    rw [ht2] at ih ⊢
    have hw := rep_wide g k (by omega)
    rw [rstS_step ih (by omega) (hg k (by omega)) hw (fun e => by subst e; exact h0)]
    have : (repIds g (k + 1)).length = (repIds g k).length + (idL (g k)).length := by
      show (repIds g k ++ idL (g k)).length = _; rw [List.length_append]
    rw [this]; rfl
/-- What was reported of four sets reads back. -/
theorem rst_back (g : Nat → Int) (gl gr : Int) (X : S7) (hg : ∀ k, k < 4 → between 1 17 (g k) = true) (h0 : wideOf (g 0) = false) (hl : between 0 3 gl = true) (hr : between 1 3 gr = true) :
    rstR (repSize g 4) gl gr X (repIds g 4) = (⟨g 0, g 1, g 2, g 3, gl, gr, X.a6⟩, true) := by
  unfold rstR
  rw [if_pos ⟨hl, hr, rep_between g⟩, rst_at g X hg h0 4 (by omega)]
  simp [putsS, putS]
end Go.Proofs.YtfkecgkfcldffaaGreatDoor
