/-
  A part of a block that is known whole: stored, and loaded.
  Keys with texts: the keys in memory; Get, Locked, Lock, Clear, Clone, used, Space of the program.
  Keys with texts: Locked, Lock, Clear, Clone, used, Space of the program.
  Keys with texts: Clear of the program.
-/
import Derived.Deep.MidRow
import Derived.Lib.Join
import Derived.Test.YtonbnmicgmnliaaDoorZUp
import Derived.Test.YtonbnmicgmnliaaDoorZSrc
import Derived.Test.YtonbnmicgmnliaaDoorZUdC
namespace Go.Proofs.YtonbnmicgmnliaaDoor
set_option linter.unusedSimpArgs false
set_option linter.unusedVariables false
open Go.RowKit
set_option linter.unusedVariables false

/-! ### A part of a block that is known whole is stored -/
def setL (C : Array Value) : Nat → List Value → Array Value
  | _, [] => C
  | o, v :: r => setL (C.setIfInBounds o v) (o + 1) r
theorem setCells_blk {g : Nat} {t : TypeId} : ∀ (vs : List Value) (o : Nat) (w : World) (C : Array Value), w.heap[g]? = some (.cells C t (0, 0)) → (w.setCells g o vs).heap[g]? = some (.cells (setL C o vs) t (0, 0)) ∧ Upd [g] w (w.setCells g o vs) ∧ (w.setCells g o vs).heap.size = w.heap.size := by
  intro vs
  induction vs with
  | nil => intro o w C h; exact ⟨h, .refl _ _, rfl⟩
  | cons v r ih =>
    intro o w C h
    obtain ⟨h1, h2, h3⟩ := ih (o + 1) (w.setCell ⟨g, o, none⟩ v) (C.setIfInBounds o v) (blk_set h o v)
    exact ⟨h1, (Upd.of_setCell w g o v).trans h2, by rw [World.setCells, h3]; simp⟩
theorem wpList_store_part {P : Program} {ops : Array Oper} {rest : List Oper} {o : Oper} {a : Act} {w : World} {Q : Exit → Act → World → Prop}
    (hgd : o.guard = none) (ty : TypeId) (x y : Operand) (ho : o.op = .store ty x y) (g off : Nat) (cells : Array Value)
    (hx : a.eval x = .pointer (some ⟨g, off, none⟩)) (hy : a.eval y = .agg cells) (t : TypeId) (old new : Array Value) (hg : w.heap[g]? = some (.cells old t (0, 0))) (hroom : off + cells.size ≤ old.size)
    (hi : (P.info? ty).map (·.size) = some cells.size) (h1 : cells.all (·.oneCell') = true) (hnew : setL old off cells.toList = new)
    (h : ∀ w', w'.heap[g]? = some (.cells new t (0, 0)) → Upd [g] w w' → w'.heap.size = w.heap.size → wpList P ops Q rest (a.put o.dst undef) w') : wpList P ops Q (o :: rest) a w := by
  refine wpList_store_mid hgd ty x y ho g off cells hx hy (fun j hj => ?_) hi h1 ?_
  · refine ⟨?_, by simp [World.frozen?, hg]⟩
    have : off + j < old.size := by omega
    simp [World.cell?, hg, this]
  · obtain ⟨k1, k2, k3⟩ := setCells_blk (t := t) cells.toList off w old hg
    rw [hnew] at k1
    exact h _ k1 k2 k3
theorem wpList_load_whole {P : Program} {ops : Array Oper} {rest : List Oper} {op : Oper} {a : Act} {w : World} {Q : Exit → Act → World → Prop} (hgd : op.guard = none) (ty : TypeId) (x : Operand) (ho : op.op = .load ty x)
    (b o : Nat) (hx : a.eval x = .pointer (some ⟨b, o, none⟩)) (cs : Array Value) (d : TypeDesc) (hc : w.rangeAt b o cs.toList)
    (hu : P.underlying ty = some d) (hd : d.isRow = true) (hi : (P.info? ty).map (·.size) = some cs.toList.length)
    (h : wpList P ops Q rest (a.put op.dst (.agg cs)) w) : wpList P ops Q (op :: rest) a w :=
  wpList_load_mid hgd ty x ho b o hx cs.toList d hc hu hd hi (by simpa using h)
theorem range_part {w : World} {g : Nat} {C : Array Value} {t : TypeId} (h : w.heap[g]? = some (.cells C t (0, 0))) (o : Nat) (cs : List Value) (hc : ∀ j v, cs[j]? = some v → C[o + j]? = some v) : w.rangeAt g o cs :=
  fun j v hj => cell_of_row h _ _ (hc j v hj)
end Go.Proofs.YtonbnmicgmnliaaDoor

namespace Go.Proofs.YtonbnmicgmnliaaDoor
set_option linter.unusedSimpArgs false
set_option linter.unusedVariables false
open Go.RowKit
set_option linter.unusedVariables false

/-- The cells of keys. -/
def tcs (L : Txs) : List Value := L.map fun s => Value.string (bsl s)
def kcs (L : Txs) (lk : Bool) : List Value := tcs L ++ [.bool lk]
theorem tcs_len (L : Txs) : (tcs L).length = L.length := by simp [tcs]
theorem kcs_len {L : Txs} (h : L.length = 18) (lk : Bool) : (kcs L lk).length = 19 := by simp [kcs, tcs_len, h]
theorem kcs_at {L : Txs} {i : Nat} {s : List UInt8} (lk : Bool) (h : L[i]? = some s) : (kcs L lk)[i]? = some (.string (bsl s)) := by
  unfold kcs
  have hi : i < (tcs L).length := by rw [tcs_len]; exact (List.getElem?_eq_some_iff.1 h).1
  rw [List.getElem?_append_left hi]
  simp [tcs, h]
theorem kcs_lock {L : Txs} (h : L.length = 18) (lk : Bool) : (kcs L lk)[18]? = some (.bool lk) := by
  unfold kcs
  rw [List.getElem?_append_right (by rw [tcs_len]; omega)]
  simp [tcs_len, h]
theorem kcs_set (L : Txs) (lk : Bool) (i : Nat) (s : List UInt8) (h : i < L.length) : (kcs L lk).set i (.string (bsl s)) = kcs (L.set i s) lk := by
  unfold kcs
  rw [List.set_append_left _ _ (by rw [tcs_len]; exact h)]
  simp [tcs, List.map_set]
theorem kcs_setlock {L : Txs} (h : L.length = 18) (lk b : Bool) : (kcs L lk).set 18 (.bool b) = kcs L b := by
  unfold kcs
  rw [List.set_append_right _ _ (by rw [tcs_len]; omega), tcs_len, h]
  rfl
structure KAt (w : World) (p : Nat) (L : Txs) (lk : Bool) : Prop where
  blk : w.heap[p]? = some (.cells (kcs L lk).toArray 43 (0, 0))
  len : L.length = 18
theorem KAt.gr {w w' : World} {p : Nat} {L : Txs} {lk : Bool} (h : KAt w p L lk) (hg : Gr w w') : KAt w' p L lk := ⟨hg.blk h.blk, h.len⟩
theorem KAt.cell {w : World} {p : Nat} {L : Txs} {lk : Bool} (h : KAt w p L lk) {i : Nat} {s : List UInt8} (hi : L[i]? = some s) : w.cell? ⟨p, i, none⟩ = some (.string (bsl s)) :=
  cell_of_row h.blk i _ (by simpa using kcs_at lk hi)
theorem KAt.lock {w : World} {p : Nat} {L : Txs} {lk : Bool} (h : KAt w p L lk) : w.cell? ⟨p, 18, none⟩ = some (.bool lk) :=
  cell_of_row h.blk 18 _ (by simpa using kcs_lock h.len lk)
theorem KAt.range {w : World} {p : Nat} {L : Txs} {lk : Bool} (h : KAt w p L lk) : w.rangeAt p 0 (kcs L lk) := fun j v hj => by
  rw [Nat.zero_add]; exact cell_of_row h.blk j _ (by simpa using hj)
def getZ (L : Txs) (key : Int) : List UInt8 := if isZ key = true then (L[key.toNat - 17]?).getD [] else []

set_option maxHeartbeats 400000 in
set_option maxRecDepth 100000 in
theorem get_any {p : Nat} {L : Txs} {lk : Bool} (key : Int) {w : World} (h : KAt w p L lk) : Calls Tryd.prog 35 #[.pointer (some ⟨p, 0, none⟩), .int .i64 key] w fun e w' => e = .returned (.tuple #[.string (bsl (getZ L key)), .bool (!(getZ L key).isEmpty)]) ∧ w = w' := by
  by_cases hz : isZ key = true
  · obtain ⟨m, rfl, _, h1, h2⟩ := isZ_form hz
    obtain ⟨i, rfl⟩ : ∃ i, m = 17 + i := ⟨m - 17, by omega⟩
    have hi : i < L.length := by rw [h.len]; omega
    have hx : L[i]? = some L[i] := List.getElem?_eq_getElem hi
    have hg : getZ L ((17 + i : Nat) : Int) = L[i] := by
      unfold getZ
      rw [if_pos hz, show (((17 + i : Nat) : Int)).toNat - 17 = i by omega, hx]; rfl
    have hc := h.cell hx
    rw [hg]
    obtain ⟨s, hs⟩ : ∃ s, s = L[i] := ⟨_, rfl⟩
    rw [← hs] at hc ⊢
    have hi18 : i < 18 := by omega
    have e1 : ((17 + i : Nat) : Int) = 17 + (i : Int) := by omega
    have hk := hz
    rw [e1] at hk ⊢
    have e2 : IntKind.i64.wrap (17 + (i : Int) - 17) = (i : Int) := by rw [IntWalk.i64_in _ (by omega)]; omega
    have e3 : (i : Int) < 18 := by omega
    have e4 : (0 : Int) ≤ (i : Int) := by omega
    have e5 : (17 : Int) + (i : Int) - 17 = (i : Int) := by omega
    have hcv := is_any (17 + (i : Int)) w
    rw [hk] at hcv
    have hse : (!(bsl s).toList.isEmpty) = !s.isEmpty := by
      cases s with
      | nil => simp [bsl, ByteArray.toList_eq]
      | cons c l => simp [bsl, ByteArray.toList_eq]
    clear hg hx hi hz hk h1 h2 hs e1 h
    go_enter Tryd.func35, Tryd.ntmps35
    go_wp2_with (go_at_call 39; (with_reducible refine hcv.mono ?_); rintro e w1 ⟨rfl, rfl⟩)
    go_ret2
    exact ⟨by rw [← hse]; rfl, rfl⟩
  · have hg : getZ L key = [] := by unfold getZ; rw [if_neg hz]
    rw [hg]
    have hcv := is_any key w
    rw [Bool.eq_false_iff.2 hz] at hcv
    clear hg hz h
    go_enter Tryd.func35, Tryd.ntmps35
    go_wp2_with (go_at_call 39; (with_reducible refine hcv.mono ?_); rintro e w1 ⟨rfl, rfl⟩)
    go_ret2
    exact ⟨rfl, rfl⟩
end Go.Proofs.YtonbnmicgmnliaaDoor

namespace Go.Proofs.YtonbnmicgmnliaaDoor
set_option linter.unusedSimpArgs false
set_option linter.unusedVariables false
open Go.RowKit
set_option linter.unusedVariables false

theorem setL_list : ∀ (vs : List Value) (C : Array Value) (o : Nat), o + vs.length ≤ C.size → (setL C o vs).toList = C.toList.take o ++ vs ++ C.toList.drop (o + vs.length)
  | [], C, o, _ => by simp [setL]
  | v :: r, C, o, h => by
    have ho : o < C.toList.length := by simp at h ⊢; omega
    rw [setL, setL_list r _ (o + 1) (by simp at h ⊢; omega), Array.toList_setIfInBounds, List.take_set, List.drop_set_of_lt (by omega), List.take_succ_eq_append_getElem ho]
    have hlen : (C.toList.take o).length = o := by rw [List.length_take]; omega
    rw [List.set_append_right _ _ (by omega), hlen, Nat.sub_self]
    simp only [List.set_cons_zero, List.append_assoc, List.cons_append, List.nil_append, List.length_cons]
    rw [show o + 1 + r.length = o + (r.length + 1) by omega]
theorem setL_all {C : Array Value} {vs : List Value} (h : vs.length = C.size) : setL C 0 vs = vs.toArray := by
  apply Array.toList_inj.1
  rw [setL_list vs C 0 (by omega)]
  simp [h]
theorem setL_front {C : Array Value} {vs r : List Value} {n : Nat} (h : C.toList = vs.take n ++ r) (us : List Value) (hn : us.length = (vs.take n).length) : setL C 0 us = (us ++ r).toArray := by
  have hs : C.size = (vs.take n ++ r).length := by rw [← h]; simp
  apply Array.toList_inj.1
  rw [setL_list us C 0 (by rw [hs, List.length_append, hn]; omega), h, Nat.zero_add, hn]
  simp
theorem kcs_one (L : Txs) (lk : Bool) : (kcs L lk).toArray.all (·.oneCell') = true := by
  rw [Array.all_eq_true']
  intro v hv
  simp [kcs, tcs] at hv
  rcases hv with ⟨s, _, rfl⟩ | rfl <;> rfl
theorem keys_size : (Tryd.prog.info? 43).map (·.size) = some 19 := by kernel_rfl
theorem texts_size : (Tryd.prog.info? 41).map (·.size) = some 18 := by kernel_rfl

theorem KAt.setLock {w : World} {p : Nat} {L : Txs} {lk : Bool} (h : KAt w p L lk) (b : Bool) : KAt (w.setCell ⟨p, 18, none⟩ (.bool b)) p L b := by
  refine ⟨?_, h.len⟩
  have := blk_set h.blk 18 (.bool b)
  rw [this, List.setIfInBounds_toArray, kcs_setlock h.len]
theorem KAt.setText {w : World} {p : Nat} {L : Txs} {lk : Bool} (h : KAt w p L lk) {i : Nat} (hi : i < 18) (s : List UInt8) : KAt (w.setCell ⟨p, i, none⟩ (.string (bsl s))) p (L.set i s) lk := by
  refine ⟨?_, by simp [h.len]⟩
  have := blk_set h.blk i (.string (bsl s))
  rw [this, List.setIfInBounds_toArray, kcs_set _ _ _ _ (by rw [h.len]; exact hi)]
theorem KAt.frozen {w : World} {p : Nat} {L : Txs} {lk : Bool} (h : KAt w p L lk) (i : Nat) : w.frozen? ⟨p, i, none⟩ = false := by simp [World.frozen?, h.blk]
theorem join_flat (xs : List (List UInt8)) : Lib.join xs [] = xs.flatten := by
  cases xs with
  | nil => rfl
  | cons x r => rw [Lib.join_cons]; simp [Lib.joinTail]
theorem flat_len (xs : Txs) : xs.flatten.length = usedL xs := by simp [usedL, List.length_flatten]
set_option maxHeartbeats 400000 in
theorem used_any {p : Nat} {L : Txs} {lk : Bool} {w : World} (h : KAt w p L lk) (hu : usedL L ≤ 1000000000000) : Calls Tryd.prog 16 #[.pointer (some ⟨p, 0, none⟩)] w fun e w' => e = .returned (.int .i64 (usedL L : Nat)) ∧ Gr w w' := by
  have hj := fun c => Tryd.strings_Join p 0 c (L.map bsl) ⟨#[]⟩ w (fun j x hx => by
    rw [List.getElem?_map] at hx
    rcases hs : L[j]? with _ | s
    · rw [hs] at hx; cases hx
    · rw [hs] at hx; simp at hx; subst hx
      rw [Nat.zero_add]; exact h.cell hs) (Array.getElem?_eq_some_iff.1 h.blk).1 (by rw [List.length_map, h.len]; omega)
  have hm : (L.map bsl).map (·.data.toList) = L := by
    rw [List.map_map]
    conv => rhs; rw [← List.map_id L]
    congr 1
  rw [hm] at hj
  have hsz : (⟨(Lib.join L (⟨#[]⟩ : ByteArray).data.toList).toArray⟩ : ByteArray).size = usedL L := by
    show (Lib.join L []).toArray.size = _
    rw [join_flat, List.size_toArray, flat_len]
  have hl : (Lib.join L (⟨#[]⟩ : ByteArray).data.toList).length ≤ 140737488355328 := by
    show (Lib.join L []).length ≤ _
    rw [join_flat, flat_len]; omega
  have hlm : (L.map bsl).length = 18 := by rw [List.length_map, h.len]
  rw [hlm] at hj
  have hj := hj 18 (Nat.le_refl _) hl
  obtain ⟨S, hS⟩ : ∃ S : ByteArray, S = ⟨(Lib.join L (⟨#[]⟩ : ByteArray).data.toList).toArray⟩ := ⟨_, rfl⟩
  rw [← hS] at hj hsz
  have HS := Lib.hid hsz
  clear hm hl hlm hS h hsz
  go_enter Tryd.func16, Tryd.ntmps16
  go_wp2_with (go_at_call 30; (with_reducible refine hj.mono ?_); rintro e w1 ⟨rfl, hg1⟩)
  go_ret
  exact ⟨by rw [HS.out]; rfl, hg1⟩
def noL : Txs := List.replicate 18 []
theorem KAt.clear {w w' : World} {p : Nat} {L : Txs} {lk : Bool} (h : KAt w p L lk) : setL (kcs L lk).toArray 0 (tcs noL) = (kcs noL lk).toArray := by
  unfold kcs
  exact setL_front (vs := tcs L) (n := 18) (r := [.bool lk]) (by simp [List.take_of_length_le, tcs_len, h.len]) (tcs noL) (by simp [tcs_len, noL, h.len])
end Go.Proofs.YtonbnmicgmnliaaDoor

namespace Go.Proofs.YtonbnmicgmnliaaDoor
set_option linter.unusedSimpArgs false
set_option linter.unusedVariables false
open Go.RowKit
set_option linter.unusedVariables false

set_option maxHeartbeats 400000 in
set_option maxRecDepth 100000 in
theorem clear_any {p : Nat} {L : Txs} {lk : Bool} {w : World} (h : KAt w p L lk) : Calls Tryd.prog 14 #[.pointer (some ⟨p, 0, none⟩)] w fun e w' => e = .returned (.tuple #[]) ∧ (KAt w' p noL lk ∧ Upd [p] w w') := by
  have hcl := h.clear (w' := w)
  rw [show tcs noL = [Value.string ⟨#[]⟩, Value.string ⟨#[]⟩, Value.string ⟨#[]⟩, Value.string ⟨#[]⟩, Value.string ⟨#[]⟩, Value.string ⟨#[]⟩, Value.string ⟨#[]⟩, Value.string ⟨#[]⟩, Value.string ⟨#[]⟩, Value.string ⟨#[]⟩, Value.string ⟨#[]⟩, Value.string ⟨#[]⟩, Value.string ⟨#[]⟩, Value.string ⟨#[]⟩, Value.string ⟨#[]⟩, Value.string ⟨#[]⟩, Value.string ⟨#[]⟩, Value.string ⟨#[]⟩] from rfl] at hcl
  have hc := h.blk
  have hsz : 0 + (#[.string ⟨#[]⟩, .string ⟨#[]⟩, .string ⟨#[]⟩, .string ⟨#[]⟩, .string ⟨#[]⟩, .string ⟨#[]⟩, .string ⟨#[]⟩, .string ⟨#[]⟩, .string ⟨#[]⟩, .string ⟨#[]⟩, .string ⟨#[]⟩, .string ⟨#[]⟩, .string ⟨#[]⟩, .string ⟨#[]⟩, .string ⟨#[]⟩, .string ⟨#[]⟩, .string ⟨#[]⟩, .string ⟨#[]⟩] : Array Value).size ≤ (kcs L lk).toArray.size := by simp [tcs_len, kcs, h.len]
  have hone : (#[.string ⟨#[]⟩, .string ⟨#[]⟩, .string ⟨#[]⟩, .string ⟨#[]⟩, .string ⟨#[]⟩, .string ⟨#[]⟩, .string ⟨#[]⟩, .string ⟨#[]⟩, .string ⟨#[]⟩, .string ⟨#[]⟩, .string ⟨#[]⟩, .string ⟨#[]⟩, .string ⟨#[]⟩, .string ⟨#[]⟩, .string ⟨#[]⟩, .string ⟨#[]⟩, .string ⟨#[]⟩, .string ⟨#[]⟩] : Array Value).all (·.oneCell') = true := by kernel_rfl
  clear h
  go_enter Tryd.func14, Tryd.ntmps14
  go_wp2_with (refine wpList_store_part rfl _ _ _ rfl p 0 #[.string ⟨#[]⟩, .string ⟨#[]⟩, .string ⟨#[]⟩, .string ⟨#[]⟩, .string ⟨#[]⟩, .string ⟨#[]⟩, .string ⟨#[]⟩, .string ⟨#[]⟩, .string ⟨#[]⟩, .string ⟨#[]⟩, .string ⟨#[]⟩, .string ⟨#[]⟩, .string ⟨#[]⟩, .string ⟨#[]⟩, .string ⟨#[]⟩, .string ⟨#[]⟩, .string ⟨#[]⟩, .string ⟨#[]⟩] rfl rfl _ (kcs L lk).toArray (kcs noL lk).toArray hc hsz texts_size hone hcl ?_; intro w1 hb1 hu1 hs1)
  go_end0
  exact ⟨rfl, ⟨hb1, rfl⟩, hu1⟩
end Go.Proofs.YtonbnmicgmnliaaDoor
