/-
  Keys with texts: the keys in memory; Get, Locked, Lock, Clear, Clone, used, Space of the program.
  Keys with texts: Locked, Lock, Clear, Clone, used, Space of the program.
  Keys with texts: Define of the program, walked.
-/
import Derived.Deep.DeepCutAuto
import Derived.Laws.IdiomStrings
import Derived.Lib.Join
import Derived.Test.YtnnhaenmoifplaaDoorZUdC
import Derived.Test.YtnnhaenmoifplaaDoorZPw
namespace Go.Proofs.YtnnhaenmoifplaaDoor
set_option linter.unusedSimpArgs false
set_option linter.unusedVariables false
open Go.RowKit
set_option linter.unusedVariables false

/-- The cells of keys. -/
def tcs (L : Txs) : List Value := L.map fun s => Value.string (bsl s)
def kcs (L : Txs) (lk : Bool) : List Value := tcs L ++ [.bool lk]
theorem tcs_len (L : Txs) : (tcs L).length = L.length := by simp [tcs]
theorem kcs_at {L : Txs} {i : Nat} {s : List UInt8} (lk : Bool) (h : L[i]? = some s) : (kcs L lk)[i]? = some (.string (bsl s)) := by
  unfold kcs
  have hi : i < (tcs L).length := by rw [tcs_len]; exact (List.getElem?_eq_some_iff.1 h).1
  rw [List.getElem?_append_left hi]
  simp [tcs, h]
structure KAt (w : World) (p : Nat) (L : Txs) (lk : Bool) : Prop where
  blk : w.heap[p]? = some (.cells (kcs L lk).toArray 29 (0, 0))
  len : L.length = 18
theorem KAt.gr {w w' : World} {p : Nat} {L : Txs} {lk : Bool} (h : KAt w p L lk) (hg : Gr w w') : KAt w' p L lk := ⟨hg.blk h.blk, h.len⟩
theorem KAt.cell {w : World} {p : Nat} {L : Txs} {lk : Bool} (h : KAt w p L lk) {i : Nat} {s : List UInt8} (hi : L[i]? = some s) : w.cell? ⟨p, i, none⟩ = some (.string (bsl s)) :=
  cell_of_row h.blk i _ (by simpa using kcs_at lk hi)
theorem KAt.range {w : World} {p : Nat} {L : Txs} {lk : Bool} (h : KAt w p L lk) : w.rangeAt p 0 (kcs L lk) := fun j v hj => by
  rw [Nat.zero_add]; exact cell_of_row h.blk j _ (by simpa using hj)
def getZ (L : Txs) (key : Int) : List UInt8 := if isZ key = true then (L[key.toNat - 17]?).getD [] else []

set_option maxHeartbeats 400000 in
set_option maxRecDepth 100000 in
theorem get_any {p : Nat} {L : Txs} {lk : Bool} (key : Int) {w : World} (h : KAt w p L lk) : Calls Tryd.prog 28 #[.pointer (some ⟨p, 0, none⟩), .int .i64 key] w fun e w' => e = .returned (.tuple #[.string (bsl (getZ L key)), .bool (!(getZ L key).isEmpty)]) ∧ w = w' := by
  by_cases hz : isZ key = true
  · obtain ⟨m, rfl, _, h1, h2⟩ := isZ_form hz
    obtain ⟨i, rfl⟩ : ∃ i, m = 17 + i := ⟨m - 17, by omega⟩
    have hi : i < L.length := by rw [h.len]; omega
    have hx : L[i]? = some L[i] := List.getElem?_eq_getElem hi
    have hg : getZ L ((17 + i : Nat) : Int) = L[i] := by
      unfold getZ
      rw [if_pos hz, show (((17 + i : Nat) : Int)).toNat - 17 = i by omega, hx]; rfl
    have hc := h.cell hx
    rw [hg]
    obtain ⟨s, hs⟩ : ∃ s, s = L[i] := ⟨_, rfl⟩
    rw [← hs] at hc ⊢
    have hi18 : i < 18 := by omega
    have e1 : ((17 + i : Nat) : Int) = 17 + (i : Int) := by omega
    have hk := hz
    rw [e1] at hk ⊢
    have e2 : IntKind.i64.wrap (17 + (i : Int) - 17) = (i : Int) := by rw [IntWalk.i64_in _ (by omega)]; omega
    have e3 : (i : Int) < 18 := by omega
    have e4 : (0 : Int) ≤ (i : Int) := by omega
    have e5 : (17 : Int) + (i : Int) - 17 = (i : Int) := by omega
    have hcv := is_any (17 + (i : Int)) w
    rw [hk] at hcv
    have hse : (!(bsl s).toList.isEmpty) = !s.isEmpty := by
      cases s with
      | nil => simp [bsl, ByteArray.toList_eq]
      | cons c l => simp [bsl, ByteArray.toList_eq]
    clear hg hx hi hz hk h1 h2 hs e1 h
    go_enter Tryd.func28, Tryd.ntmps28
    go_wp2_with (go_at_call 41; (with_reducible refine hcv.mono ?_); rintro e w1 ⟨rfl, rfl⟩)
    go_ret2
    exact ⟨by rw [← hse]; rfl, rfl⟩
  · have hg : getZ L key = [] := by unfold getZ; rw [if_neg hz]
    rw [hg]
    have hcv := is_any key w
    rw [Bool.eq_false_iff.2 hz] at hcv
    clear hg hz h
    go_enter Tryd.func28, Tryd.ntmps28
    go_wp2_with (go_at_call 41; (with_reducible refine hcv.mono ?_); rintro e w1 ⟨rfl, rfl⟩)
    go_ret2
    exact ⟨rfl, rfl⟩
end Go.Proofs.YtnnhaenmoifplaaDoor

namespace Go.Proofs.YtnnhaenmoifplaaDoor
set_option linter.unusedSimpArgs false
set_option linter.unusedVariables false
open Go.RowKit
set_option linter.unusedVariables false

theorem setL_list : ∀ (vs : List Value) (C : Array Value) (o : Nat), o + vs.length ≤ C.size → (setL C o vs).toList = C.toList.take o ++ vs ++ C.toList.drop (o + vs.length)
  | [], C, o, _ => by simp [setL]
  | v :: r, C, o, h => by
    have ho : o < C.toList.length := by simp at h ⊢; omega
    rw [setL, setL_list r _ (o + 1) (by simp at h ⊢; omega), Array.toList_setIfInBounds, List.take_set, List.drop_set_of_lt (by omega), List.take_succ_eq_append_getElem ho]
    have hlen : (C.toList.take o).length = o := by rw [List.length_take]; omega
    rw [List.set_append_right _ _ (by omega), hlen, Nat.sub_self]
    simp only [List.set_cons_zero, List.append_assoc, List.cons_append, List.nil_append, List.length_cons]
    rw [show o + 1 + r.length = o + (r.length + 1) by omega]
theorem setL_front {C : Array Value} {vs r : List Value} {n : Nat} (h : C.toList = vs.take n ++ r) (us : List Value) (hn : us.length = (vs.take n).length) : setL C 0 us = (us ++ r).toArray := by
  have hs : C.size = (vs.take n ++ r).length := by rw [← h]; simp
  apply Array.toList_inj.1
  rw [setL_list us C 0 (by rw [hs, List.length_append, hn]; omega), h, Nat.zero_add, hn]
  simp
def noL : Txs := List.replicate 18 []
theorem KAt.clear {w w' : World} {p : Nat} {L : Txs} {lk : Bool} (h : KAt w p L lk) : setL (kcs L lk).toArray 0 (tcs noL) = (kcs noL lk).toArray := by
  unfold kcs
  exact setL_front (vs := tcs L) (n := 18) (r := [.bool lk]) (by simp [List.take_of_length_le, tcs_len, h.len]) (tcs noL) (by simp [tcs_len, noL, h.len])
end Go.Proofs.YtnnhaenmoifplaaDoor

namespace Go.Proofs.YtnnhaenmoifplaaDoor
set_option linter.unusedSimpArgs false
set_option linter.unusedVariables false
open Go.RowKit
set_option linter.unusedVariables false

theorem KAt.upd {w w' : World} {p : Nat} {L : Txs} {lk : Bool} {K : List Nat} (h : KAt w p L lk) (hu : Upd K w w') (hp : p ∉ K) : KAt w' p L lk := ⟨hu.blk h.blk hp, h.len⟩
end Go.Proofs.YtnnhaenmoifplaaDoor
