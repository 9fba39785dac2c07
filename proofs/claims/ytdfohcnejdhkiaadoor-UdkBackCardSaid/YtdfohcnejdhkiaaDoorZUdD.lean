/-
  Keys with texts: the keys in memory; Get, Locked, Lock, Clear, Clone, used, Space of the program.
-/
import Derived.Lib.Join
import Derived.Test.YtdfohcnejdhkiaaDoorZUdC
import Derived.Test.YtdfohcnejdhkiaaDoorZPw
namespace Go.Proofs.YtdfohcnejdhkiaaDoor
set_option linter.unusedSimpArgs false
set_option linter.unusedVariables false
open Go.RowKit
set_option linter.unusedVariables false

/-- The cells of keys. -/
def tcs (L : Txs) : List Value := L.map fun s => Value.string (bsl s)
def kcs (L : Txs) (lk : Bool) : List Value := tcs L ++ [.bool lk]
theorem tcs_len (L : Txs) : (tcs L).length = L.length := by simp [tcs]
theorem kcs_len {L : Txs} (h : L.length = 18) (lk : Bool) : (kcs L lk).length = 19 := by simp [kcs, tcs_len, h]
theorem kcs_at {L : Txs} {i : Nat} {s : List UInt8} (lk : Bool) (h : L[i]? = some s) : (kcs L lk)[i]? = some (.string (bsl s)) := by
  unfold kcs
  have hi : i < (tcs L).length := by rw [tcs_len]; exact (List.getElem?_eq_some_iff.1 h).1
  rw [List.getElem?_append_left hi]
  simp [tcs, h]
theorem kcs_lock {L : Txs} (h : L.length = 18) (lk : Bool) : (kcs L lk)[18]? = some (.bool lk) := by
  unfold kcs
  rw [List.getElem?_append_right (by rw [tcs_len]; omega)]
  simp [tcs_len, h]
theorem kcs_set (L : Txs) (lk : Bool) (i : Nat) (s : List UInt8) (h : i < L.length) : (kcs L lk).set i (.string (bsl s)) = kcs (L.set i s) lk := by
  unfold kcs
  rw [List.set_append_left _ _ (by rw [tcs_len]; exact h)]
  simp [tcs, List.map_set]
theorem kcs_setlock {L : Txs} (h : L.length = 18) (lk b : Bool) : (kcs L lk).set 18 (.bool b) = kcs L b := by
  unfold kcs
  rw [List.set_append_right _ _ (by rw [tcs_len]; omega), tcs_len, h]
  rfl
structure KAt (w : World) (p : Nat) (L : Txs) (lk : Bool) : Prop where
  blk : w.heap[p]? = some (.cells (kcs L lk).toArray 27 (0, 0))
  len : L.length = 18
theorem KAt.gr {w w' : World} {p : Nat} {L : Txs} {lk : Bool} (h : KAt w p L lk) (hg : Gr w w') : KAt w' p L lk := ⟨hg.blk h.blk, h.len⟩
theorem KAt.cell {w : World} {p : Nat} {L : Txs} {lk : Bool} (h : KAt w p L lk) {i : Nat} {s : List UInt8} (hi : L[i]? = some s) : w.cell? ⟨p, i, none⟩ = some (.string (bsl s)) :=
  cell_of_row h.blk i _ (by simpa using kcs_at lk hi)
theorem KAt.lock {w : World} {p : Nat} {L : Txs} {lk : Bool} (h : KAt w p L lk) : w.cell? ⟨p, 18, none⟩ = some (.bool lk) :=
  cell_of_row h.blk 18 _ (by simpa using kcs_lock h.len lk)
theorem KAt.range {w : World} {p : Nat} {L : Txs} {lk : Bool} (h : KAt w p L lk) : w.rangeAt p 0 (kcs L lk) := fun j v hj => by
  rw [Nat.zero_add]; exact cell_of_row h.blk j _ (by simpa using hj)
def getZ (L : Txs) (key : Int) : List UInt8 := if isZ key = true then (L[key.toNat - 17]?).getD [] else []

set_option maxHeartbeats 400000 in
set_option maxRecDepth 100000 in
theorem get_any {p : Nat} {L : Txs} {lk : Bool} (key : Int) {w : World} (h : KAt w p L lk) : Calls Tryd.prog 15 #[.pointer (some ⟨p, 0, none⟩), .int .i64 key] w fun e w' => e = .returned (.tuple #[.string (bsl (getZ L key)), .bool (!(getZ L key).isEmpty)]) ∧ w = w' := by
  by_cases hz : isZ key = true
  · obtain ⟨m, rfl, _, h1, h2⟩ := isZ_form hz
    obtain ⟨i, rfl⟩ : ∃ i, m = 17 + i := ⟨m - 17, by omega⟩
    have hi : i < L.length := by rw [h.len]; omega
    have hx : L[i]? = some L[i] := List.getElem?_eq_getElem hi
    have hg : getZ L ((17 + i : Nat) : Int) = L[i] := by
      unfold getZ
      rw [if_pos hz, show (((17 + i : Nat) : Int)).toNat - 17 = i by omega, hx]; rfl
    have hc := h.cell hx
    rw [hg]
    obtain ⟨s, hs⟩ : ∃ s, s = L[i] := ⟨_, rfl⟩
    rw [← hs] at hc ⊢
    have hi18 : i < 18 := by omega
    have e1 : ((17 + i : Nat) : Int) = 17 + (i : Int) := by omega
    have hk := hz
    rw [e1] at hk ⊢
    have e2 : IntKind.i64.wrap (17 + (i : Int) - 17) = (i : Int) := by rw [IntWalk.i64_in _ (by omega)]; omega
    have e3 : (i : Int) < 18 := by omega
    have e4 : (0 : Int) ≤ (i : Int) := by omega
    have e5 : (17 : Int) + (i : Int) - 17 = (i : Int) := by omega
    have hcv := is_any (17 + (i : Int)) w
    rw [hk] at hcv
    have hse : (!(bsl s).toList.isEmpty) = !s.isEmpty := by
      cases s with
      | nil => simp [bsl, ByteArray.toList_eq]
      | cons c l => simp [bsl, ByteArray.toList_eq]
    clear hg hx hi hz hk h1 h2 hs e1 h
    go_enter Tryd.func15, Tryd.ntmps15
    go_wp2_with (go_at_call 27; (with_reducible refine hcv.mono ?_); rintro e w1 ⟨rfl, rfl⟩)
    go_ret2
    exact ⟨by rw [← hse]; rfl, rfl⟩
  · have hg : getZ L key = [] := by unfold getZ; rw [if_neg hz]
    rw [hg]
    have hcv := is_any key w
    rw [Bool.eq_false_iff.2 hz] at hcv
    clear hg hz h
    go_enter Tryd.func15, Tryd.ntmps15
    go_wp2_with (go_at_call 27; (with_reducible refine hcv.mono ?_); rintro e w1 ⟨rfl, rfl⟩)
    go_ret2
    exact ⟨rfl, rfl⟩
end Go.Proofs.YtdfohcnejdhkiaaDoor
