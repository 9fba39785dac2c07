/-
  Keys with texts: Locked, Lock, Clear, Clone, used, Space of the program.
-/
import Derived.Test.YtdfohcnejdhkiaaDoorZUdD
namespace Go.Proofs.YtdfohcnejdhkiaaDoor
set_option linter.unusedSimpArgs false
set_option linter.unusedVariables false
open Go.RowKit
set_option linter.unusedVariables false

theorem setL_list : ∀ (vs : List Value) (C : Array Value) (o : Nat), o + vs.length ≤ C.size → (setL C o vs).toList = C.toList.take o ++ vs ++ C.toList.drop (o + vs.length)
  | [], C, o, _ => by simp [setL]
  | v :: r, C, o, h => by
    have ho : o < C.toList.length := by simp at h ⊢; omega
    rw [setL, setL_list r _ (o + 1) (by simp at h ⊢; omega), Array.toList_setIfInBounds, List.take_set, List.drop_set_of_lt (by omega), List.take_succ_eq_append_getElem ho]
    have hlen : (C.toList.take o).length = o := by rw [List.length_take]; omega
    rw [List.set_append_right _ _ (by omega), hlen, Nat.sub_self]
    simp only [List.set_cons_zero, List.append_assoc, List.cons_append, List.nil_append, List.length_cons]
    rw [show o + 1 + r.length = o + (r.length + 1) by omega]
theorem setL_all {C : Array Value} {vs : List Value} (h : vs.length = C.size) : setL C 0 vs = vs.toArray := by
  apply Array.toList_inj.1
  rw [setL_list vs C 0 (by omega)]
  simp [h]
theorem setL_front {C : Array Value} {vs r : List Value} {n : Nat} (h : C.toList = vs.take n ++ r) (us : List Value) (hn : us.length = (vs.take n).length) : setL C 0 us = (us ++ r).toArray := by
  have hs : C.size = (vs.take n ++ r).length := by rw [← h]; simp
  apply Array.toList_inj.1
  rw [setL_list us C 0 (by rw [hs, List.length_append, hn]; omega), h, Nat.zero_add, hn]
  simp
theorem kcs_one (L : Txs) (lk : Bool) : (kcs L lk).toArray.all (·.oneCell') = true := by
  rw [Array.all_eq_true']
  intro v hv
  simp [kcs, tcs] at hv
  rcases hv with ⟨s, _, rfl⟩ | rfl <;> rfl
theorem keys_size : (Tryd.prog.info? 27).map (·.size) = some 19 := by kernel_rfl
theorem texts_size : (Tryd.prog.info? 25).map (·.size) = some 18 := by kernel_rfl

set_option maxHeartbeats 400000 in
theorem locked_any {p : Nat} {L : Txs} {lk : Bool} {w : World} (h : KAt w p L lk) : Calls Tryd.prog 20 #[.pointer (some ⟨p, 0, none⟩)] w fun e w' => e = .returned (.bool lk) ∧ w = w' := by
  have hc := h.lock
  clear h
  go_enter Tryd.func20, Tryd.ntmps20
  go_wp2_with fail
  go_ret
  exact ⟨rfl, rfl⟩
theorem KAt.setLock {w : World} {p : Nat} {L : Txs} {lk : Bool} (h : KAt w p L lk) (b : Bool) : KAt (w.setCell ⟨p, 18, none⟩ (.bool b)) p L b := by
  refine ⟨?_, h.len⟩
  have := blk_set h.blk 18 (.bool b)
  rw [this, List.setIfInBounds_toArray, kcs_setlock h.len]
theorem KAt.setText {w : World} {p : Nat} {L : Txs} {lk : Bool} (h : KAt w p L lk) {i : Nat} (hi : i < 18) (s : List UInt8) : KAt (w.setCell ⟨p, i, none⟩ (.string (bsl s))) p (L.set i s) lk := by
  refine ⟨?_, by simp [h.len]⟩
  have := blk_set h.blk i (.string (bsl s))
  rw [this, List.setIfInBounds_toArray, kcs_set _ _ _ _ (by rw [h.len]; exact hi)]
theorem KAt.frozen {w : World} {p : Nat} {L : Txs} {lk : Bool} (h : KAt w p L lk) (i : Nat) : w.frozen? ⟨p, i, none⟩ = false := by simp [World.frozen?, h.blk]
set_option maxHeartbeats 400000 in
theorem lock_any {p : Nat} {L : Txs} {lk : Bool} (b : Bool) {w : World} (h : KAt w p L lk) : Calls Tryd.prog 17 #[.pointer (some ⟨p, 0, none⟩), .bool b] w fun e w' => e = .returned (.tuple #[]) ∧ (KAt w' p L b ∧ Upd [p] w w') := by
  have hc := h.lock
  have hf := h.frozen 18
  have hk := h.setLock b
  have hu := Upd.of_setCell w p 18 (.bool b)
  clear h
  go_enter Tryd.func17, Tryd.ntmps17
  go_wp2_with fail
  go_end0
  exact ⟨rfl, hk, hu⟩
theorem join_flat (xs : List (List UInt8)) : Lib.join xs [] = xs.flatten := by
  cases xs with
  | nil => rfl
  | cons x r => rw [Lib.join_cons]; simp [Lib.joinTail]
theorem flat_len (xs : Txs) : xs.flatten.length = usedL xs := by simp [usedL, List.length_flatten]
set_option maxHeartbeats 400000 in
theorem used_any {p : Nat} {L : Txs} {lk : Bool} {w : World} (h : KAt w p L lk) (hu : usedL L ≤ 1000000000000) : Calls Tryd.prog 23 #[.pointer (some ⟨p, 0, none⟩)] w fun e w' => e = .returned (.int .i64 (usedL L : Nat)) ∧ Gr w w' := by
  have hj := fun c => Tryd.strings_Join p 0 c (L.map bsl) ⟨#[]⟩ w (fun j x hx => by
    rw [List.getElem?_map] at hx
    rcases hs : L[j]? with _ | s
    · rw [hs] at hx; cases hx
    · rw [hs] at hx; simp at hx; subst hx
      rw [Nat.zero_add]; exact h.cell hs) (Array.getElem?_eq_some_iff.1 h.blk).1 (by rw [List.length_map, h.len]; omega)
  have hm : (L.map bsl).map (·.data.toList) = L := by
    rw [List.map_map]
    conv => rhs; rw [← List.map_id L]
    congr 1
  rw [hm] at hj
  have hsz : (⟨(Lib.join L (⟨#[]⟩ : ByteArray).data.toList).toArray⟩ : ByteArray).size = usedL L := by
    show (Lib.join L []).toArray.size = _
    rw [join_flat, List.size_toArray, flat_len]
  have hl : (Lib.join L (⟨#[]⟩ : ByteArray).data.toList).length ≤ 140737488355328 := by
    show (Lib.join L []).length ≤ _
    rw [join_flat, flat_len]; omega
  have hlm : (L.map bsl).length = 18 := by rw [List.length_map, h.len]
  rw [hlm] at hj
  have hj := hj 18 (Nat.le_refl _) hl
  obtain ⟨S, hS⟩ : ∃ S : ByteArray, S = ⟨(Lib.join L (⟨#[]⟩ : ByteArray).data.toList).toArray⟩ := ⟨_, rfl⟩
  rw [← hS] at hj hsz
  have HS := Lib.hid hsz
  clear hm hl hlm hS h hsz
  go_enter Tryd.func23, Tryd.ntmps23
  go_wp2_with (go_at_call 34; (with_reducible refine hj.mono ?_); rintro e w1 ⟨rfl, hg1⟩)
  go_ret
  exact ⟨by rw [HS.out]; rfl, hg1⟩
set_option maxHeartbeats 400000 in
theorem space_any {p : Nat} {L : Txs} {lk : Bool} {w : World} (h : KAt w p L lk) (hu : usedL L ≤ 1000000000000) : Calls Tryd.prog 9 #[.pointer (some ⟨p, 0, none⟩)] w fun e w' => e = .returned (.int .i64 (804 - (usedL L : Nat))) ∧ Gr w w' := by
  have hj := used_any h hu
  obtain ⟨n, hn⟩ : ∃ n, n = usedL L := ⟨_, rfl⟩
  rw [← hn] at hj hu ⊢
  clear h hn
  have e1 : IntKind.i64.wrap (804 - (n : Int)) = 804 - (n : Int) := IntWalk.i64_in _ (by omega)
  go_enter Tryd.func9, Tryd.ntmps9
  go_wp2_with (go_at_call 23; (with_reducible refine hj.mono ?_); rintro e w1 ⟨rfl, hg1⟩)
  go_ret
  exact ⟨rfl, hg1⟩
def noL : Txs := List.replicate 18 []
theorem KAt.clear {w w' : World} {p : Nat} {L : Txs} {lk : Bool} (h : KAt w p L lk) : setL (kcs L lk).toArray 0 (tcs noL) = (kcs noL lk).toArray := by
  unfold kcs
  exact setL_front (vs := tcs L) (n := 18) (r := [.bool lk]) (by simp [List.take_of_length_le, tcs_len, h.len]) (tcs noL) (by simp [tcs_len, noL, h.len])
set_option maxHeartbeats 400000 in
set_option maxRecDepth 100000 in
theorem clone_any {p : Nat} {L : Txs} {lk : Bool} {w : World} (h : KAt w p L lk) : Calls Tryd.prog 10 #[.pointer (some ⟨p, 0, none⟩)] w fun e w' => e = .returned (.pointer (some ⟨w.heap.size, 0, none⟩)) ∧ (KAt w' w.heap.size L lk ∧ Gr w w') := by
  have hr := h.range
  have hl := kcs_len h.len lk
  have hlen := h.len
  have hone := kcs_one L lk
  obtain ⟨cs, hcs⟩ : ∃ cs, cs = kcs L lk := ⟨_, rfl⟩
  rw [← hcs] at hr hl hone
  have HC := Lib.hid hcs
  clear h hcs
  go_enter Tryd.func10, Tryd.ntmps10
  go_wp2_with (first
    | (refine wpList_load_whole rfl 27 _ rfl p 0 rfl cs.toArray _ hr Tryd.underlying27 rfl (by rw [keys_size, hl]) ?_)
    | (refine wpList_store_part rfl _ _ _ rfl _ 0 cs.toArray rfl rfl _ _ _ (heap_alloc_new _ _) (by simp [hl]) (by rw [keys_size]; simp [hl]) hone (setL_all (by simp [hl])) ?_; intro w1 hb1 hu1 hs1))
  go_ret
  exact ⟨rfl, ⟨by rw [hb1, HC.out], hlen⟩, ((Gr.refl w).alloc _).upd hu1 (by simp)⟩
end Go.Proofs.YtdfohcnejdhkiaaDoor
