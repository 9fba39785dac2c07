/-
  Tab stops: Set, Clear, Has on lists; Restore.
-/
import Derived.Test.YtjdmobildcgidaaDoorTbJ
namespace Go.Proofs.YtjdmobildcgidaaDoor
set_option linter.unusedSimpArgs false
set_option linter.unusedVariables false
open Go.RowKit
set_option linter.unusedVariables false

/-- The library's variable that says how long a text a search may be for is there. -/
def MaxOk (w : World) : Prop := ∃ m, w.cell? ⟨2, 0, none⟩ = some (.int .i64 m)
theorem MaxOk.gr {w w' : World} (h : MaxOk w) (hg : Gr w w') : MaxOk w' := by
  obtain ⟨m, h⟩ := h
  exact ⟨m, hg.cellAt h⟩
/-- Stops of a list in memory. -/
def LAt (w : World) (p : Nat) (l : List Bool) : Prop := StAt w p (l.length : Nat) (lf l)
def putL (l : List Bool) (c : Int) (b : Bool) : List Bool := if 0 ≤ c ∧ c < (l.length : Int) then l.set c.toNat b else l
theorem putL_len (l : List Bool) (c : Int) (b : Bool) : (putL l c b).length = l.length := by unfold putL; split <;> simp
theorem lf_set (l : List Bool) (c : Nat) (b : Bool) (h : c < l.length) : lf (l.set c b) = upd (lf l) c b := by
  funext j
  unfold lf upd
  by_cases e : j = c
  · subst e; simp [h]
  · rw [if_neg e]
    simp only [List.getD_eq_getElem?_getD]
    rw [List.getElem?_set_ne (fun h => e h.symm)]
theorem putL_in (l : List Bool) (c : Nat) (b : Bool) (h : c < l.length) : putL l (c : Int) b = l.set c b := by
  unfold putL; rw [if_pos (by omega)]; rfl
theorem setP_put (l : List Bool) (n : Nat) : setP l n = putL l ((n : Int) - 1) true := by
  unfold setP putL
  by_cases h1 : 1 ≤ n
  · rw [if_pos h1]
    by_cases h2 : n ≤ l.length
    · rw [if_pos (by omega)]; congr 1; omega
    · rw [if_neg (by omega), List.set_eq_of_length_le (by omega)]
  · rw [if_neg h1, if_neg (by omega)]
theorem set_l (p : Nat) (l : List Bool) (c : Int) (w : World) (h : LAt w p l) (hn : l.length ≤ 500) : Calls Tryd.prog 24 #[.pointer (some ⟨p, 0, none⟩), .int .i64 c] w fun e w' => e = .returned (.tuple #[]) ∧ (LAt w' p (putL l c true) ∧ Upd [p] w w') := by
  by_cases hc : 0 ≤ c ∧ c < (l.length : Int)
  · obtain ⟨k, rfl⟩ : ∃ k : Nat, c = k := ⟨c.toNat, by omega⟩
    refine (set_in p l.length k (lf l) w h hn (by omega)).mono ?_
    rintro e w' ⟨rfl, h1, h2⟩
    refine ⟨rfl, ?_, h2⟩
    unfold LAt
    rw [putL_len, putL_in l k true (by omega), lf_set l k true (by omega)]
    exact h1
  · refine (set_out p l.length c (lf l) w h (by rw [Bool.and_eq_false_iff]; simp only [decide_eq_false_iff_not]; omega)).mono ?_
    rintro e w' ⟨rfl, rfl⟩
    refine ⟨rfl, ?_, Upd.refl _ _⟩
    unfold putL
    rw [if_neg hc]
    exact h
theorem clear_l (p : Nat) (l : List Bool) (c : Int) (w : World) (h : LAt w p l) (hn : l.length ≤ 500) : Calls Tryd.prog 29 #[.pointer (some ⟨p, 0, none⟩), .int .i64 c] w fun e w' => e = .returned (.tuple #[]) ∧ (LAt w' p (putL l c false) ∧ Upd [p] w w') := by
  by_cases hc : 0 ≤ c ∧ c < (l.length : Int)
  · obtain ⟨k, rfl⟩ : ∃ k : Nat, c = k := ⟨c.toNat, by omega⟩
    refine (clear_in p l.length k (lf l) w h hn (by omega)).mono ?_
    rintro e w' ⟨rfl, h1, h2⟩
    refine ⟨rfl, ?_, h2⟩
    unfold LAt
    rw [putL_len, putL_in l k false (by omega), lf_set l k false (by omega)]
    exact h1
  · refine (clear_out p l.length c (lf l) w h (by rw [Bool.and_eq_false_iff]; simp only [decide_eq_false_iff_not]; omega)).mono ?_
    rintro e w' ⟨rfl, rfl⟩
    refine ⟨rfl, ?_, Upd.refl _ _⟩
    unfold putL
    rw [if_neg hc]
    exact h
theorem lf_none (n : Nat) : lf (List.replicate n false) = fun _ => false := by
  funext j; unfold lf
  by_cases h : j < n <;> simp [h]
theorem clearAll_l (p : Nat) (l : List Bool) (w : World) (h : LAt w p l) : Calls Tryd.prog 23 #[.pointer (some ⟨p, 0, none⟩)] w fun e w' => e = .returned (.tuple #[]) ∧ (LAt w' p (List.replicate l.length false) ∧ Upd [p] w w') := by
  refine (clearAll_any p _ _ w h).mono ?_
  rintro e w' ⟨rfl, h1, h2⟩
  refine ⟨rfl, ?_, h2⟩
  unfold LAt
  rw [lf_none, List.length_replicate]
  exact h1
theorem resize_l (p : Nat) (l : List Bool) (n : Int) (w : World) (h : LAt w p l) (hl : l.length ≤ 500) : Calls Tryd.prog 16 #[.pointer (some ⟨p, 0, none⟩), .int .i64 n] w fun e w' => e = .returned (.tuple #[]) ∧ (LAt w' p (rszL l n) ∧ Upd [p] w w') := resize_any p l n w h hl

set_option maxRecDepth 100000 in
set_option maxHeartbeats 1000000 in
theorem new_l (n : Int) (w : World) : Calls Tryd.prog 28 #[.int .i64 n] w fun e w' => ∃ p, w.heap.size ≤ p ∧ e = .returned (.pointer (some ⟨p, 0, none⟩)) ∧ LAt w' p (rszL [] n) ∧ Gr w w' := by
  have hz : ∀ w0 : World, LAt (w0.alloc (.cells #[.int .i64 0, .int .u64 0, .int .u64 0, .int .u64 0, .int .u64 0, .int .u64 0, .int .u64 0, .int .u64 0, .int .u64 0] 45)) w0.heap.size [] := by
    intro w0
    have e : lf [] = fun _ => false := by funext j; rfl
    unfold LAt StAt
    rw [e, stCells_none]
    exact heap_alloc_new _ _
  go_enter Tryd.func28, Tryd.ntmps28
  go_wp2_with (go_at_call 16; (with_reducible refine (resize_l _ [] n _ (hz _) (by simp)).mono ?_); rintro e w2 ⟨rfl, hl2, hu2⟩)
  go_ret
  exact ⟨_, Nat.le_refl _, rfl, hl2, Gr.upd ((Gr.refl w).alloc _) hu2 (by simp)⟩

theorem full9 {w : World} {p : Nat} {T : TypeId} {x0 x1 x2 x3 x4 x5 x6 x7 x8 y0 y1 y2 y3 y4 y5 y6 y7 y8 : Value} (h : w.heap[p]? = some (.cells #[x0, x1, x2, x3, x4, x5, x6, x7, x8] T (0, 0))) :
    (((((((((w.setCell ⟨p, 0, none⟩ y0).setCell ⟨p, 1, none⟩ y1).setCell ⟨p, 2, none⟩ y2).setCell ⟨p, 3, none⟩ y3).setCell ⟨p, 4, none⟩ y4).setCell ⟨p, 5, none⟩ y5).setCell ⟨p, 6, none⟩ y6).setCell ⟨p, 7, none⟩ y7).setCell ⟨p, 8, none⟩ y8).heap[p]? = some (.cells #[y0, y1, y2, y3, y4, y5, y6, y7, y8] T (0, 0)) := by
  have b0 := blk_set h 0 y0
  simp only [List.setIfInBounds_toArray, List.set_cons_zero, List.set_cons_succ] at b0
  have b1 := blk_set b0 1 y1
  simp only [List.setIfInBounds_toArray, List.set_cons_zero, List.set_cons_succ] at b1
  have b2 := blk_set b1 2 y2
  simp only [List.setIfInBounds_toArray, List.set_cons_zero, List.set_cons_succ] at b2
  have b3 := blk_set b2 3 y3
  simp only [List.setIfInBounds_toArray, List.set_cons_zero, List.set_cons_succ] at b3
  have b4 := blk_set b3 4 y4
  simp only [List.setIfInBounds_toArray, List.set_cons_zero, List.set_cons_succ] at b4
  have b5 := blk_set b4 5 y5
  simp only [List.setIfInBounds_toArray, List.set_cons_zero, List.set_cons_succ] at b5
  have b6 := blk_set b5 6 y6
  simp only [List.setIfInBounds_toArray, List.set_cons_zero, List.set_cons_succ] at b6
  have b7 := blk_set b6 7 y7
  simp only [List.setIfInBounds_toArray, List.set_cons_zero, List.set_cons_succ] at b7
  have b8 := blk_set b7 8 y8
  simp only [List.setIfInBounds_toArray, List.set_cons_zero, List.set_cons_succ] at b8
  exact b8
theorem pcs_pos (t : List UInt8) : 1 ≤ (pcs t).length := by unfold pcs; simp
theorem splitB_pcs (t : List UInt8) : (Lib.splitB ⟨#[47]⟩ 0 (Lib.countB (bsl t) ⟨#[47]⟩) (bsl t)).map (·.data.toList) = pcs t := by
  rw [Lib.splitB_data, ← split_pcs]
  rfl
theorem split_any (t : List UInt8) (w : World) (hl : t.length ≤ 1000000) (hm : MaxOk w) : Calls Tryd.prog 39 #[.string (bsl t), .string ⟨#[47]⟩] w fun e w' => e = .returned (.slice (some ⟨w.heap.size, 0, none⟩) (pcs t).length (pcs t).length) ∧ w' = w.alloc (.cells ((pcs t).map fun q => Value.string (bsl q)).toArray 9) := by
  obtain ⟨m, hm⟩ := hm
  refine (Tryd.strings_Split (bsl t) ⟨#[47]⟩ m w (by rw [bsl_size]; omega) hm (by decide)).mono ?_
  rintro e w' ⟨rfl, rfl⟩
  have h1 := splitB_pcs t
  have h2 := Lib.splitB_all ⟨#[47]⟩ (by decide) 0 _ (bsl t) rfl
  generalize Lib.splitB ⟨#[47]⟩ 0 (Lib.countB (bsl t) ⟨#[47]⟩) (bsl t) = L at h1 h2 ⊢
  rw [← h2, ← h1]
  refine ⟨by simp, ?_⟩
  rw [List.map_map]
  congr 3

theorem colR_le {q : List UInt8} {n : Nat} (h : colR q = some n) : n ≤ 1000 := by
  unfold colR at h
  split at h
  · injection h with h; rw [← h]; exact valD_le q
  · cases h
theorem colV_some {q : List UInt8} {n : Nat} (h : colR q = some n) : colV q = .tuple #[.int .i64 ((n : Int) - 1), .bool true] := by
  unfold colR at h
  split at h
  · rename_i hc
    injection h with h
    unfold colV
    rw [if_pos hc.2, hc.1, h]; rfl
  · cases h
theorem colV_none {q : List UInt8} (h : colR q = none) : ∃ a, colV q = .tuple #[.int .i64 a, .bool false] := by
  unfold colR at h
  split at h
  · cases h
  · rename_i hc
    unfold colV
    by_cases ha : q.all isD = true
    · rw [if_pos ha]
      have : q.isEmpty = true := by
        cases hq : q.isEmpty with
        | true => rfl
        | false => exact absurd ⟨hq, ha⟩ hc
      exact ⟨_, by rw [this]; rfl⟩
    · rw [if_neg ha]; exact ⟨_, rfl⟩
theorem pc_len : ∀ t : List UInt8, (pc t).2.length ≤ t.length
  | [] => Nat.le_refl _
  | c :: t => by
    have ih := pc_len t
    by_cases h : c = 47
    · subst h; rw [pc_yes]; simp; omega
    · rw [pc_no _ _ h]; simp; omega
theorem pcs_len (t : List UInt8) : (pcs t).length ≤ t.length + 1 := by have := pc_len t; unfold pcs; simp; omega
theorem pc_short : ∀ t : List UInt8, (pc t).1.length ≤ t.length ∧ ∀ q ∈ (pc t).2, q.length ≤ t.length
  | [] => ⟨Nat.le_refl _, fun q h => by cases h⟩
  | c :: t => by
    obtain ⟨i1, i2⟩ := pc_short t
    by_cases h : c = 47
    · subst h; rw [pc_yes]
      refine ⟨by simp, fun q hq => ?_⟩
      rcases List.mem_cons.1 hq with rfl | hq
      · simp; omega
      · have := i2 q hq; simp; omega
    · rw [pc_no _ _ h]
      refine ⟨by simp; omega, fun q hq => ?_⟩
      have := i2 q hq; simp; omega
theorem pcs_short (t : List UInt8) : ∀ q ∈ pcs t, q.length ≤ t.length := by
  intro q hq
  obtain ⟨i1, i2⟩ := pc_short t
  rcases List.mem_cons.1 hq with rfl | hq
  · exact i1
  · exact i2 q hq

set_option maxRecDepth 100000 in
set_option maxHeartbeats 4000000 in
theorem restore_l (p : Nat) (l : List Bool) (t : List UInt8) (w : World) (h : LAt w p l) (hl : l.length ≤ 500) (ht : t.length ≤ 1000000) (hM : MaxOk w) : Calls Tryd.prog 27 #[.pointer (some ⟨p, 0, none⟩), .string (bsl t)] w fun e w' => e = .returned (.int .i64 (rstE l t)) ∧ (LAt w' p (rstL l t) ∧ Upd [p] w w') := by
  have hz : ∀ w0 : World, LAt (w0.alloc (.cells #[.int .i64 (l.length : Nat), .int .u64 0, .int .u64 0, .int .u64 0, .int .u64 0, .int .u64 0, .int .u64 0, .int .u64 0, .int .u64 0] 45)) w0.heap.size (List.replicate l.length false) := by
    intro w0
    unfold LAt StAt
    rw [lf_none, stCells_none, List.length_replicate]
    exact heap_alloc_new _ _
  have h0 := StAt.cell0 h
  have hpw := (Array.getElem?_eq_some_iff.1 h).1
  cases hte : t.isEmpty with
  | true =>
    have he : (bsl t).toList.isEmpty = true := bsl_emptyL (by simpa using hte)
    have hO : rstO l.length t = some (List.replicate l.length false) := by unfold rstO; rw [if_pos hte]
    have hE : rstE l t = 0 := by unfold rstE; rw [hO]; rfl
    have hL : rstL l t = List.replicate l.length false := by unfold rstL; rw [hO]; rfl
    rw [hE, hL]
    clear hE hL hO hM
    unfold LAt StAt
    rw [lf_none, stCells_none, List.length_replicate]
    unfold LAt StAt stCells at h
    have kf : ∀ i, w.frozen? ⟨p, i, none⟩ = false := fun i => by simp [World.frozen?, h]
    have HB := Lib.hid h
    have k0 := cell_of_row h 0 _ rfl
    have k1 := cell_of_row h 1 _ rfl
    have k2 := cell_of_row h 2 _ rfl
    have k3 := cell_of_row h 3 _ rfl
    have k4 := cell_of_row h 4 _ rfl
    have k5 := cell_of_row h 5 _ rfl
    have k6 := cell_of_row h 6 _ rfl
    have k7 := cell_of_row h 7 _ rfl
    have k8 := cell_of_row h 8 _ rfl
    clear h h0
    go_enter Tryd.func27, Tryd.ntmps27
    go_wp2_with fail
    go_ret
    exact ⟨rfl, ((Gr.refl _).alloc _).blk (full9 HB.out), by (repeat (first | with_reducible exact Upd.refl _ _ | with_reducible refine Upd.setCell ?_ (by simp) _ | with_reducible refine Upd.alloc ?_ _ | with_reducible refine Upd.drew ?_))⟩
  | false =>
    have he : (bsl t).toList.isEmpty = false := bsl_consL (by rintro rfl; cases hte)
    obtain ⟨R, hR⟩ : ∃ R, R = rstP (List.replicate l.length false) (pcs t) := ⟨_, rfl⟩
    have hO : rstO l.length t = R := by unfold rstO; rw [if_neg (by rw [hte]; decide), hR]
    have hE1 : R = none → rstE l t = 3 ∧ rstL l t = l := by
      intro h; unfold rstE rstL; rw [hO, h]; exact ⟨rfl, rfl⟩
    have hE2 : ∀ o, R = some o → rstE l t = 0 ∧ rstL l t = o := by
      intro o h; unfold rstE rstL; rw [hO, h]; exact ⟨rfl, rfl⟩
    have hRl : ∀ r, R = some r → r.length = l.length := fun r h => rstO_len _ _ _ (hO.trans h)
    obtain ⟨E, hE⟩ : ∃ E, E = rstE l t := ⟨_, rfl⟩
    obtain ⟨L, hL⟩ : ∃ L, L = rstL l t := ⟨_, rfl⟩
    rw [← hE, ← hL] at hE1 hE2 ⊢
    have HE1 := Lib.hid hE1
    have HE2 := Lib.hid hE2
    clear hE hL hO hE1 hE2
    have HR := Lib.hid hR
    have HRL := Lib.hid hRl
    clear hR hRl
    obtain ⟨ps, hps⟩ : ∃ ps, ps = pcs t := ⟨_, rfl⟩
    have hsp := split_any t
    have hpl := pcs_len t
    rw [← hps] at hsp hpl HR
    have hpc := pcs_short t
    rw [← hps] at hpc
    have HPC := Lib.hid hpc
    clear hps hte hpc
    have hln : ps.length ≤ 1000001 := by omega
    clear hpl
    have hsp2 := fun (w' : World) (hm : MaxOk w') => hsp w' ht hm
    clear hsp
    go_enter Tryd.func27, Tryd.ntmps27
    go_wp2_with (first
      | (go_at_call 39; (with_reducible refine (hsp2 _ (hM.gr ?_)).mono ?_); ((repeat (first | with_reducible exact Gr.refl _ | with_reducible assumption | with_reducible refine Gr.setCell ?_ (by simp; try omega) _ | with_reducible refine Gr.alloc ?_ _ | with_reducible refine Gr.drew ?_ | with_reducible refine Gr.drewN ?_ _ | with_reducible refine Gr.trans ?_ (by assumption)))); rintro e w2 ⟨rfl, rfl⟩))
    obtain ⟨Z, hZ⟩ : ∃ Z : Obj, Z = .cells #[.int .i64 (l.length : Nat), .int .u64 0, .int .u64 0, .int .u64 0, .int .u64 0, .int .u64 0, .int .u64 0, .int .u64 0, .int .u64 0] 45 := ⟨_, rfl⟩
    have hz1 := hz w
    simp only [← hZ] at hz1 ⊢
    clear hz
    have hs1 : LAt ((w.alloc Z).alloc (.cells (ps.map fun q => Value.string (bsl q)).toArray 9)) w.heap.size (List.replicate l.length false) := StAt.gr hz1 ((Gr.refl _).alloc _)
    have hb1 := heap_alloc_new (w.alloc Z) (.cells (ps.map fun q => Value.string (bsl q)).toArray 9)
    rw [World.size_alloc] at hb1
    have hg1 : Gr w ((w.alloc Z).alloc (.cells (ps.map fun q => Value.string (bsl q)).toArray 9)) := ((Gr.refl _).alloc _).alloc _
    obtain ⟨W0, hW0⟩ : ∃ W0, W0 = (w.alloc Z).alloc (.cells (ps.map fun q => Value.string (bsl q)).toArray 9) := ⟨_, rfl⟩
    rw [← hW0] at hs1 hb1 hg1 ⊢
    clear hW0 hZ hz1 hM
    go_loopw [20] (fun iv wr => ∃ (k : Nat) (out : List Bool), iv = .int .i64 (k : Int) ∧ k ≤ ps.length ∧ LAt wr w.heap.size out ∧ Hid (out.length = l.length ∧ rstP out (ps.drop k) = R) ∧ wr.heap[w.heap.size + 1]? = some (.cells (ps.map fun q => Value.string (bsl q)).toArray 9 (0, 0)) ∧ Gr w wr) (fun iv _ => ps.length - (intOf iv).toNat)
    case atStart => exact ⟨0, _, rfl, Nat.zero_le _, hs1, Lib.hid ⟨by simp, by rw [List.drop_zero]; exact HR.out.symm⟩, hb1, hg1⟩
    case round =>
      clear hs1 hb1 hg1
      obtain ⟨k, out, rfl, hk, hst, HO, hb, hgr⟩ := hrel
      by_cases hlt : k < ps.length
      · have hki : (k : Int) < (ps.length : Int) := by omega
        obtain ⟨q, hq⟩ : ∃ q, q = ps[k] := ⟨_, rfl⟩
        have hcx := cell_of_row hb k (.string (bsl q)) (by simp [hlt, hq])
        have hql : q.length ≤ 1000000 := by have := HPC.out q (by rw [hq]; exact List.getElem_mem hlt); omega
        have hdr : rstP out (q :: ps.drop (k + 1)) = R := by rw [hq, ← List.drop_eq_getElem_cons hlt]; exact HO.out.2
        have hcol := column_any q wr hql
        have hnl : out.length ≤ 500 := by have := HO.out.1; omega
        have hol := HO.out.1
        have HOL := Lib.hid hol
        clear hq hql HO hol
        unfold rstP at hdr
        cases hc : colR q with
        | none =>
          obtain ⟨a, hv⟩ := colV_none hc
          rw [hv] at hcol
          rw [hc] at hdr
          have hRn : R = none := hdr.symm
          have HRN := Lib.hid hRn
          clear hdr hRn hc hv
          have hfin : LAt wr p l := StAt.gr h hgr
          have HF := Lib.hid hfin
          clear hfin h h0 hb hst
          go_wp2_with (first
            | (go_at_call 40; (with_reducible refine hcol.mono ?_); rintro e w3 ⟨rfl, hg3⟩))
          go_ret
          obtain ⟨e1, e2⟩ := HE1.out HRN.out
          exact ⟨by rw [e1]; rfl, by rw [e2]; exact StAt.gr HF.out hg3, Upd.of_gr (hgr.trans hg3)⟩
        | some n =>
          have hv := colV_some hc
          rw [hv] at hcol
          rw [hc] at hdr
          have hdr2 : rstP (putL out ((n : Int) - 1) true) (ps.drop (k + 1)) = R := by rw [← setP_put]; exact hdr
          have hle := colR_le hc
          have HD := Lib.hid hdr2
          clear hdr hc hv hdr2
          have hset := fun (w' : World) (hg : Gr wr w') => set_l w.heap.size out ((n : Int) - 1) w' (StAt.gr hst hg) hnl
          go_wp2_with (first
            | (go_at_call 40; (with_reducible refine hcol.mono ?_); rintro e w3 ⟨rfl, hg3⟩)
            | (go_at_call 24; (with_reducible refine (hset _ hg3).mono ?_); rintro e w4 ⟨rfl, hst4, hu4⟩))
          go_roundw
          case rel => exact ⟨k + 1, _, by go_num, by omega, hst4, Lib.hid ⟨by rw [putL_len]; exact HOL.out, HD.out⟩, hu4.blk (hg3.blk hb) (by simp), Gr.upd (hgr.trans hg3) hu4 (by simp)⟩
          case measure => simp [intOf]; omega
      · obtain rfl : k = ps.length := by omega
        have hRo : R = some out := by have := HO.out.2; rw [List.drop_length] at this; exact this.symm
        have HRO := Lib.hid hRo
        have hol := HO.out.1
        have HOL := Lib.hid hol
        clear hRo HO hol
        have h2 : LAt wr p l := StAt.gr h hgr
        unfold LAt StAt at h2 hst
        have HST := Lib.hid hst
        have HB := Lib.hid h2
        have hne : p ≠ w.heap.size := by omega
        have kf : ∀ i, wr.frozen? ⟨p, i, none⟩ = false := fun i => by simp [World.frozen?, h2, stCells]
        unfold stCells at h2 hst
        have k0 := cell_of_row h2 0 _ rfl
        have k1 := cell_of_row h2 1 _ rfl
        have k2 := cell_of_row h2 2 _ rfl
        have k3 := cell_of_row h2 3 _ rfl
        have k4 := cell_of_row h2 4 _ rfl
        have k5 := cell_of_row h2 5 _ rfl
        have k6 := cell_of_row h2 6 _ rfl
        have k7 := cell_of_row h2 7 _ rfl
        have k8 := cell_of_row h2 8 _ rfl
        have j0 := cell_of_row hst 0 _ rfl
        have j1 := cell_of_row hst 1 _ rfl
        have j2 := cell_of_row hst 2 _ rfl
        have j3 := cell_of_row hst 3 _ rfl
        have j4 := cell_of_row hst 4 _ rfl
        have j5 := cell_of_row hst 5 _ rfl
        have j6 := cell_of_row hst 6 _ rfl
        have j7 := cell_of_row hst 7 _ rfl
        have j8 := cell_of_row hst 8 _ rfl
        clear h h0 h2 hst hb
        go_wp2_with fail
        go_ret
        obtain ⟨e1, e2⟩ := HE2.out _ HRO.out
        refine ⟨by rw [e1]; rfl, ?_, ?_⟩
        · rw [e2]
          unfold LAt StAt
          rw [HOL.out]
          exact full9 HB.out
        · exact (Upd.of_gr hgr).trans (by (repeat (first | with_reducible exact Upd.refl _ _ | with_reducible refine Upd.setCell ?_ (by simp) _ | with_reducible refine Upd.alloc ?_ _ | with_reducible refine Upd.drew ?_)))
end Go.Proofs.YtjdmobildcgidaaDoor
