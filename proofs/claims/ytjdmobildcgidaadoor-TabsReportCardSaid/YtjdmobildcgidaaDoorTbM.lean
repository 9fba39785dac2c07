/-
  Tab stops: the document's Put and List.
-/
import Derived.Test.YtjdmobildcgidaaDoorTbL
namespace Go.Proofs.YtjdmobildcgidaaDoor
set_option linter.unusedSimpArgs false
set_option linter.unusedVariables false
open Go.RowKit
set_option linter.unusedVariables false

theorem HasRow.set {w : World} {e n g cap : Nat} {xs : List Value} (h : HasRow w e (.slice (some ⟨g, 0, none⟩) n cap) n xs) (k : Nat) (u : Value) (hk : k < n) : HasRow (w.setCell ⟨g, k, none⟩ u) e (.slice (some ⟨g, 0, none⟩) n cap) n (xs.set k u) := by
  refine ⟨by rw [List.length_set]; exact h.1, ?_⟩
  rcases h.2 with ⟨hv, _⟩ | ⟨g', cap', cur, hv, hh, hn, hc, ht⟩
  · cases hv
  · injection hv with e1 e2 e3
    injection e1 with e1
    injection e1 with e1
    subst e1 e3
    refine .inr ⟨g, cap, cur.setIfInBounds k u, rfl, blk_set hh k u, hn, by simpa using hc, ?_⟩
    rw [Array.toList_setIfInBounds, List.take_set, ht]
theorem own_cell {w : World} {B e n k : Nat} {v : Value} {xs : List Value} (h : w.ownsRow B e 1 v n xs) (hk : k < n) : ∃ g cap, v = .slice (some ⟨g, 0, none⟩) n cap ∧ B ≤ g ∧ ((∃ u, w.cell? ⟨g, k, none⟩ = some u) ∧ w.frozen? ⟨g, k, none⟩ = false) := by
  obtain ⟨g, cap, u, hv, hu, hc⟩ := (HasRow.of_own h).at_ hk
  refine ⟨g, cap, hv, ownsRow_base h (by rw [hv]; rfl), ⟨u, hc⟩, ?_⟩
  rcases h.2 with ⟨hv', _⟩ | ⟨g', cap', cur, hv', _, hh, _⟩
  · rw [hv'] at hv; cases hv
  · rw [hv'] at hv
    injection hv with e1 e2 e3
    injection e1 with e1
    injection e1 with e1
    subst e1
    simp [World.frozen?, hh]
theorem bcs_set (l : List Bool) (k : Nat) (b : Bool) : (bcs l).set k (.bool b) = bcs (l.set k b) := by unfold bcs; rw [List.map_set]

set_option maxRecDepth 100000 in
set_option maxHeartbeats 2000000 in
theorem put_any (B : Nat) (v : Value) (l : List Bool) (c : Int) (b : Bool) (w : World) (h : BL B w v l) (hl : l.length ≤ 500) : Calls Tryd.prog 30 #[v, .int .i64 c, .bool b] w (BOut w (putL l c b)) := by
  obtain ⟨va, cap, rfl⟩ := h.1.form
  have hsrc := fun (w' : World) (hg : Gr w w') => src_row boolsT (h.1.gr hg) (bcs_one l)
  have hmade := World.ownsRow_made (e := 4) (size := 1) w #[] 0 (Nat.le_refl _) (Nat.zero_le _) rfl
  have hgm : Gr w (w.alloc (.cells #[] 4)) := (Gr.refl w).alloc _
  obtain ⟨N, hN⟩ : ∃ N, N = l.length := ⟨_, rfl⟩
  rw [← hN] at hl hsrc
  have HN := Lib.hid hN
  rw [← hN]
  clear hN h
  by_cases hc : 0 ≤ c ∧ c < (N : Int)
  · obtain ⟨k, rfl⟩ : ∃ k : Nat, c = k := ⟨c.toNat, by omega⟩
    have hkN : (k : Int) < (N : Int) := hc.2
    have hk0 : (0 : Int) ≤ (k : Int) := hc.1
    have hpl : putL l (k : Int) b = l.set k b := putL_in l k b (by have := HN.out; omega)
    rw [hpl]
    clear hc hpl
    go_enter Tryd.func30, Tryd.ntmps30
    go_wp2_with (first
      | (at_builtin; (refine wpList_add (w0 := w) rfl _ _ _ _ rfl 4 _ 1 boolsT boolI rfl (by omega) _ 0 _ rfl hmade hgm _ N (bcs l) rfl (hsrc _ hgm) (by omega) ?_); intro va2 cap3 w3 hown3 hg3;
         simp only [Nat.zero_add, List.nil_append] at hown3 ⊢; obtain ⟨g, cap4, hv4, hB4, hat⟩ := own_cell (k := k) (B := w.heap.size) hown3 (by omega); injection hv4 with e1 e2 e3; subst e1 e3;
         obtain ⟨⟨u0, hu0⟩, hf0⟩ := hat))
    go_ret
    have hrow := (HasRow.of_own hown3).set k (.bool b) (by omega)
    rw [bcs_set] at hrow
    have hbl : BL w.heap.size (w3.setCell ⟨g, k, none⟩ (.bool b)) (.slice (some ⟨g, 0, none⟩) N _) (l.set k b) := ⟨by rw [List.length_set, ← HN.out]; exact hrow, fun j hj => ownsRow_base hown3 hj⟩
    exact ⟨_, rfl, hbl, Gr.setCell hg3 hB4 _⟩
  · have hpl : putL l c b = l := by unfold putL; rw [if_neg (by have := HN.out; omega)]
    rw [hpl]
    clear hpl
    by_cases h0 : 0 ≤ c
    · have hcN : ¬ c < (N : Int) := by omega
      go_enter Tryd.func30, Tryd.ntmps30
      go_wp2_with (first
        | (at_builtin; (refine wpList_add (w0 := w) rfl _ _ _ _ rfl 4 _ 1 boolsT boolI rfl (by omega) _ 0 _ rfl hmade hgm _ N (bcs l) rfl (hsrc _ hgm) (by omega) ?_); intro va2 cap3 w3 hown3 hg3; simp only [Nat.zero_add, List.nil_append] at hown3 ⊢))
      go_ret
      exact ⟨_, rfl, BL.of_own hown3, hg3⟩
    · go_enter Tryd.func30, Tryd.ntmps30
      go_wp2_with (first
        | (at_builtin; (refine wpList_add (w0 := w) rfl _ _ _ _ rfl 4 _ 1 boolsT boolI rfl (by omega) _ 0 _ rfl hmade hgm _ N (bcs l) rfl (hsrc _ hgm) (by omega) ?_); intro va2 cap3 w3 hown3 hg3; simp only [Nat.zero_add, List.nil_append] at hown3 ⊢))
      go_ret
      exact ⟨_, rfl, BL.of_own hown3, hg3⟩

theorem listF_succ (f : Nat → Bool) (i : Nat) : listF f (i + 1) = listF f i ++ (if f i = true then [i] else []) := by
  unfold listF
  rw [List.range_succ, List.filter_append]
  congr 1
  cases h : f i <;> simp [h]
theorem listF_end (l : List Bool) (n : Nat) (h : l.length ≤ n) : listF (lf l) n = listF (lf l) l.length := by
  obtain ⟨d, rfl⟩ : ∃ d, n = l.length + d := ⟨n - l.length, by omega⟩
  clear h
  induction d with
  | zero => rfl
  | succ d ih =>
    rw [← Nat.add_assoc, listF_succ, ih, lf_out l _ (by omega)]
    simp
set_option maxRecDepth 100000 in
set_option maxHeartbeats 2000000 in
theorem rlist_any (B : Nat) (v : Value) (l : List Bool) (w : World) (h : BL B w v l) (hl : l.length ≤ 500) : Calls Tryd.prog 20 #[v] w (NOut w (listF (lf l) 512)) := by
  obtain ⟨va, cap, rfl⟩ := h.1.form
  rw [listF_end l 512 (by omega)]
  have HL := Lib.hid h
  clear h
  obtain ⟨N, hN⟩ : ∃ N, N = l.length := ⟨_, rfl⟩
  rw [← hN] at hl
  have HN := Lib.hid hN
  rw [← hN]
  clear hN
  have hstart : w.ownsRow w.heap.size 3 1 (.slice none 0 0) 0 (ncells (listF (lf l) 0)) := by simpa [listF, ncells] using World.ownsRow_nil w w.heap.size 3 1
  go_enter Tryd.func20, Tryd.ntmps20
  go_wp2_with fail
  go_loopw [3, 4] (fun ov iv wr => ∃ (i m : Nat) (va' : Option Addr) (cap' : Nat), iv = .int .i64 (i : Int) ∧ i ≤ N ∧ m ≤ i ∧ ov = .slice va' m cap' ∧ wr.ownsRow w.heap.size 3 1 (.slice va' m cap') m (ncells (listF (lf l) i)) ∧ Gr w wr) (fun _ iv _ => N - (intOf iv).toNat)
  case atStart => exact ⟨0, 0, none, 0, rfl, Nat.zero_le _, Nat.le_refl _, rfl, hstart, by (repeat (first | with_reducible exact Gr.refl _ | with_reducible assumption | with_reducible refine Gr.setCell ?_ (by simp; try omega) _ | with_reducible refine Gr.alloc ?_ _ | with_reducible refine Gr.drew ?_ | with_reducible refine Gr.drewN ?_ _ | with_reducible refine Gr.trans ?_ (by assumption)))⟩
  case round =>
    obtain ⟨i, m, va', cap', rfl, hi, hm, rfl, hown, hgr⟩ := hrel
    by_cases hlt : i < N
    · have hiN : (i : Int) < (N : Int) := by omega
      obtain ⟨g, cap2, hv, hc⟩ := (HL.out.gr hgr).at_ (k := i) (by have := HN.out; omega)
      injection hv with e1 e2 e3
      subst e1
      have hs := listF_succ (lf l) i
      obtain ⟨b, hb⟩ : ∃ b, b = l.getD i false := ⟨_, rfl⟩
      have hfb : lf l i = b := by rw [hb]; rfl
      rw [← hb] at hc
      rw [hfb] at hs
      clear hfb hb e2 e3
      cases b with
      | true =>
        have HS := Lib.hid hs
        clear hs
        go_wp2_with (first
          | (at_builtin; (refine wpList_add (w0 := w) rfl _ _ _ _ rfl 3 _ 8 intsT intI rfl (by omega) _ m _ rfl (hown.alloc _) (hgr.alloc _) _ 1 [.int .i64 (i : Int)] rfl (src_block intsT _ (heap_alloc_new _ _) rfl (by simp [Value.oneCell'])) (by omega) ?_); intro va2 cap3 w3 hown3 hg3))
        go_roundw
        case rel => exact ⟨i + 1, m + 1, va2, cap3, by go_num, by omega, by omega, rfl, by rw [HS.out, if_pos rfl, ncells_snoc]; exact hown3, hg3⟩
        case measure => simp [intOf]; omega
      | false =>
        have HS := Lib.hid hs
        clear hs
        go_wp2_with fail
        go_roundw
        case rel => exact ⟨i + 1, m, va', cap', by go_num, by omega, by omega, rfl, by rw [HS.out, if_neg (by decide), List.append_nil]; exact hown, hgr⟩
        case measure => simp [intOf]; omega
    · obtain rfl : i = N := by omega
      have hml : m = (listF (lf l) i).length := by have := hown.1; rw [ncells_len] at this; simpa using this.symm
      have HM := Lib.hid hml
      clear hml
      go_wp2_with fail
      go_ret
      exact ⟨va', cap', by rw [← HM.out]; rfl, by rw [← HM.out]; exact hown, hgr⟩
end Go.Proofs.YtjdmobildcgidaaDoor
