/-
  Keys with texts: what the law UdkBack defines; the plain law of it.
-/
import Derived.Test.YtdfohcnejdhkiaaDoorZUdT
import Derived.Test.YtdfohcnejdhkiaaDoorZMcL
namespace Go.Proofs.YtdfohcnejdhkiaaDoor
set_option linter.unusedSimpArgs false
set_option linter.unusedVariables false
open Go.RowKit
set_option linter.unusedVariables false

def kd1 (key : Nat) : UInt8 := UInt8.ofNat (48 + key / 10)
def kd2 (key : Nat) : UInt8 := UInt8.ofNat (48 + key % 10)
theorem key_digits : ∀ k : Fin 35, isK k.val = true → kd1 k.val ≠ 47 ∧ kd2 k.val ≠ 47 ∧ kd1 k.val ≠ 59 ∧ kd2 k.val ≠ 59 ∧ [kd1 k.val, kd2 k.val].all isDg = true ∧ valK 68 [kd1 k.val, kd2 k.val] = k.val ∧ (kd1 k.val).toNat = 48 + k.val / 10 ∧ (kd2 k.val).toNat = 48 + k.val % 10 := by decide +kernel
theorem hexB_ne (l : List UInt8) : ∀ c ∈ hexB l, c ≠ 59 := by
  intro c hc
  unfold hexB at hc
  obtain ⟨x, _, hc⟩ := List.mem_flatMap.1 hc
  have hx := x.toNat_lt
  simp only [List.mem_cons, List.not_mem_nil, or_false] at hc
  rcases hc with rfl | rfl
  · exact (digB_facts ⟨x.toNat / 16, by omega⟩).2.2.1
  · exact (digB_facts ⟨x.toNat % 16, by omega⟩).2.2.1
def keyData (key : Nat) (T : List UInt8) : List UInt8 := kd1 key :: kd2 key :: 47 :: hexB T
theorem back_dfn {L : Txs} {key : Nat} {T : List UInt8} (hk : isK key = true) (hu : T.length + usedL L ≤ 804) : dfnR L false false false (keyData key T) = (L.set (key - 17) T, false, 0) := by
  have hb := isK_in hk
  obtain ⟨a1, a2, a3, a4, a5, a6, _, _⟩ := key_digits ⟨key, by omega⟩ hk
  simp only at a1 a2 a3 a4 a5 a6
  unfold keyData
  have hs : sps 59 (kd1 key :: kd2 key :: 47 :: hexB T) = [kd1 key :: kd2 key :: 47 :: hexB T] := sps_none (by
    intro c hc
    simp only [List.mem_cons] at hc
    rcases hc with rfl | rfl | rfl | hc
    · exact a3
    · exact a4
    · decide
    · exact hexB_ne T c hc)
  have hd : defR L (kd1 key :: kd2 key :: 47 :: hexB T) = some (L.set (key - 17) T) := by
    unfold defR
    rw [if_neg (by simp)]
    have hc : cutS (kd1 key :: kd2 key :: 47 :: hexB T) = some ([kd1 key, kd2 key], hexB T) := cutS_app [kd1 key, kd2 key] (hexB T) (by simp [a1, a2])
    unfold defP
    rw [hc]
    simp only [a5, a6, hk, and_self, if_true, hex_back, Option.map_some]
  unfold dfnR
  have hw : withR (if false = true then List.replicate 18 [] else L) (sps 59 (kd1 key :: kd2 key :: 47 :: hexB T)) = some (L.set (key - 17) T) := by
    rw [hs]
    show withR L [_] = _
    unfold withR
    rw [hd]; rfl
  rw [hw]
  have h2 := used_set L (key - 17) T
  simp only
  rw [if_neg (by omega), if_neg (by simp)]
theorem get_set {L : Txs} {key : Nat} {T : List UInt8} (hL : L.length = 18) (hk : isK key = true) (n : Nat) : getZ (L.set (key - 17) T) (n : Int) = if n = key then T else getZ L (n : Int) := by
  have hb := isK_in hk
  unfold getZ
  rw [isZ_nat, Int.toNat_natCast]
  by_cases h : n = key
  · subst h
    rw [if_pos rfl, if_pos hk, List.getElem?_set_self (by omega)]; rfl
  · rw [if_neg h]
    by_cases hn : isK n = true
    · have hb2 := isK_in hn
      rw [if_pos hn, if_pos hn, List.getElem?_set_ne (by omega)]
    · rw [if_neg hn, if_neg hn]
/-- What is known in the region that makes the data. -/
def daF (key : Nat) (T : List UInt8) (A B : Int) : Nat → (Nat → Value) → World → Prop
  | 0, ys, _ => ys 0 = .int .i64 (key : Int)
  | 1, ys, _ => ys 1 = .int .i64 A
  | 2, ys, _ => ys 2 = .int .i64 ((kd1 key).toNat : Int)
  | 3, ys, _ => ys 3 = .int .u8 ((kd1 key).toNat : Int)
  | 4, ys, _ => ys 4 = .int .i64 (key : Int)
  | 5, ys, _ => ys 5 = .int .i64 B
  | 6, ys, _ => ys 6 = .int .i64 ((kd2 key).toNat : Int)
  | 7, ys, _ => ys 7 = .int .u8 ((kd2 key).toNat : Int)
  | 8, ys, W => ∃ g, ys 8 = .slice (some ⟨g, 0, none⟩) 3 3 ∧ W.heap[g]? = some (.cells (Lib.byteCells [kd1 key, kd2 key, 47]).toArray 5 (0, 0))
  | 9, ys, _ => ys 9 = .string (bsl [kd1 key, kd2 key, 47])
  | 10, ys, _ => ys 10 = .string (bsl T)
  | 11, ys, _ => ys 11 = .string (bsl (hexB T))
  | 12, ys, _ => ys 12 = .string (bsl (keyData key T))
  | 13, ys, _ => ys 13 = .string (bsl (keyData key T))
  | _, _, _ => True
theorem daF.gr {key : Nat} {T : List UInt8} {A B : Int} {j : Nat} {ys : Nat → Value} {W W' : World} (h : daF key T A B j ys W) (hg : Gr W W') : daF key T A B j ys W' := by
  unfold daF at h ⊢
  split <;> first | exact h | skip
  · obtain ⟨g, e, h1⟩ := h; exact ⟨g, e, hg.blk h1⟩
  · trivial
end Go.Proofs.YtdfohcnejdhkiaaDoor
