/-
  Keys with texts: Same of the program and of the document, walked.
-/
import Derived.Test.YtdfohcnejdhkiaaDoorZOrd
import Derived.Test.YtdfohcnejdhkiaaDoorZUdR
namespace Go.Proofs.YtdfohcnejdhkiaaDoor
set_option linter.unusedSimpArgs false
set_option linter.unusedVariables false
open Go.RowKit
set_option linter.unusedVariables false

def FactS (p q : Nat) (A B : Array Value) (b : Bool) : Nat → Value → World → Prop
  | 0, v, _ => v = .pointer (some ⟨p, 0, none⟩)
  | 1, v, _ => v = .pointer (some ⟨p, 0, none⟩)
  | 2, v, _ => v = .agg A
  | 3, v, _ => v = .pointer (some ⟨q, 0, none⟩)
  | 4, v, _ => v = .pointer (some ⟨q, 0, none⟩)
  | 5, v, _ => v = .agg B
  | 6, v, _ => v = .bool b
  | 7, v, _ => v = .bool b
  | _, _, _ => True
theorem wp_load_keys {o : Oper} {a : Act} {w : World} {K : Act → World → Prop} {Q : Exit → Act → World → Prop} (x : Operand) (ho : o.op = .load 27 x) (g : Nat) (hx : a.eval x = .pointer (some ⟨g, 0, none⟩)) {cs : List Value} (hl : cs.length = 19) (hc : w.rangeAt g 0 cs)
    (h : K (a.put o.dst (.agg cs.toArray)) w) : o.wp Tryd.prog a w K Q :=
  wp_load_mid 27 x ho g 0 hx cs _ hc Tryd.underlying27 rfl (by rw [keys_size, hl]) h
set_option maxHeartbeats 2000000 in
set_option maxRecDepth 100000 in
theorem psame_any {p q : Nat} {L L' : Txs} {lk lk' : Bool} {w : World} (h1 : KAt w p L lk) (h2 : KAt w q L' lk') : Calls Tryd.prog 13 #[.pointer (some ⟨p, 0, none⟩), .pointer (some ⟨q, 0, none⟩)] w fun e w' => e = .returned (.bool (decide (L = L') && (lk == lk'))) ∧ Gr w w' := by
  have heq := fun W => keys_eq L L' lk lk' h1.len h2.len W
  have hl1 := kcs_len h1.len lk
  have hl2 := kcs_len h2.len lk'
  have r1 := fun (W : World) (hg : Gr w W) => (h1.gr hg).range
  have r2 := fun (W : World) (hg : Gr w W) => (h2.gr hg).range
  obtain ⟨b, hb⟩ : ∃ b, b = (decide (L = L') && (lk == lk')) := ⟨_, rfl⟩
  rw [← hb] at heq ⊢
  obtain ⟨cs, hcs⟩ : ∃ cs, cs = kcs L lk := ⟨_, rfl⟩
  obtain ⟨ds, hds⟩ : ∃ ds, ds = kcs L' lk' := ⟨_, rfl⟩
  rw [← hcs] at heq hl1 r1
  rw [← hds] at heq hl2 r2
  clear hcs hds hb h1 h2
  go_enter Tryd.func13, Tryd.ntmps13
  go_upto_region 1 with fail
  refine wp_region_facts (FactS p q cs.toArray ds.toArray b) (fun w' => Gr w w') (by kernel_rfl) (by kernel_rfl) (by kernel_rfl) ?_ ?_ ?_
  · exact (Gr.refl w).drew
  · refine Steps.cons1 1 rfl rfl ?_ (Steps.cons1 2 rfl rfl ?_ (Steps.cons1 3 rfl rfl ?_ (Steps.cons1 4 rfl rfl ?_ (Steps.cons1 5 rfl rfl ?_ (Steps.cons1 6 rfl rfl ?_ (Steps.cons1 7 rfl rfl ?_ (Steps.cons1 8 rfl rfl ?_ (Steps.nil))))))))
    · (intro ys w' hB hP K hK; simp only [Preds, Region.binds, FactS, forall_const, and_true, true_and] at hP; simp only [fillA]; go_simp; (have h2 := fun v => hK v w' hB); simp only [FactS, forall_eq] at h2; (have h2 := h2 (fun _ _ _ h => h)); simp [fillA, Act.put, hP] at h2; exact h2)
    · (intro ys w' hB hP K hK; simp only [Preds, Region.binds, FactS, forall_const, and_true, true_and] at hP; simp only [fillA]; go_simp; (have h2 := fun v => hK v w' hB); simp only [FactS, forall_eq] at h2; (have h2 := h2 (fun _ _ _ h => h)); simp [fillA, Act.put, hP] at h2; exact h2)
    · (intro ys w' hB hP; simp only [Preds, Region.binds, FactS, forall_const, and_true, true_and] at hP)
      intro K hK
      simp only [fillA]
      have hr := r1 w' hB
      have key : ∀ {o : Oper} {a : Act} {Q : Exit → Act → World → Prop} (x : Operand), o.op = .load 27 x → a.eval x = .pointer (some ⟨p, 0, none⟩) → K (a.put o.dst (.agg cs.toArray)) w' → o.wp Tryd.prog a w' K Q := fun x ho hx h => wp_load_keys x ho p hx hl1 hr h
      with_reducible refine key (.tmp 6) rfl ?_ ?_
      · simp [Act.eval, Act.put, hP]
      have h2 := fun v => hK v w' hB
      simp only [FactS, forall_eq] at h2
      have h2 := h2 (fun _ _ _ h => h)
      simp [fillA, Act.put, hP] at h2 ⊢
      exact h2
    · (intro ys w' hB hP K hK; simp only [Preds, Region.binds, FactS, forall_const, and_true, true_and] at hP; simp only [fillA]; go_simp; (have h2 := fun v => hK v w' hB); simp only [FactS, forall_eq] at h2; (have h2 := h2 (fun _ _ _ h => h)); simp [fillA, Act.put, hP] at h2; exact h2)
    · (intro ys w' hB hP K hK; simp only [Preds, Region.binds, FactS, forall_const, and_true, true_and] at hP; simp only [fillA]; go_simp; (have h2 := fun v => hK v w' hB); simp only [FactS, forall_eq] at h2; (have h2 := h2 (fun _ _ _ h => h)); simp [fillA, Act.put, hP] at h2; exact h2)
    · (intro ys w' hB hP; simp only [Preds, Region.binds, FactS, forall_const, and_true, true_and] at hP)
      intro K hK
      simp only [fillA]
      have hr := r2 w' hB
      have key : ∀ {o : Oper} {a : Act} {Q : Exit → Act → World → Prop} (x : Operand), o.op = .load 27 x → a.eval x = .pointer (some ⟨q, 0, none⟩) → K (a.put o.dst (.agg ds.toArray)) w' → o.wp Tryd.prog a w' K Q := fun x ho hx h => wp_load_keys x ho q hx hl2 hr h
      with_reducible refine key (.tmp 9) rfl ?_ ?_
      · simp [Act.eval, Act.put, hP]
      have h2 := fun v => hK v w' hB
      simp only [FactS, forall_eq] at h2
      have h2 := h2 (fun _ _ _ h => h)
      simp [fillA, Act.put, hP] at h2 ⊢
      exact h2
    · (intro ys w' hB hP; simp only [Preds, Region.binds, FactS, forall_const, and_true, true_and] at hP)
      have he := heq w'
      intro K hK
      simp only [fillA]
      go_simp
      have h2 := hK _ w' hB rfl (fun j u _ h => h)
      simp [fillA, Act.put, hP] at h2
      exact h2
    · (intro ys w' hB hP K hK; simp only [Preds, Region.binds, FactS, forall_const, and_true, true_and] at hP; simp only [fillA]; go_simp; (have h2 := fun v => hK v w' hB); simp only [FactS, forall_eq] at h2; (have h2 := h2 (fun _ _ _ h => h)); simp [fillA, Act.put, hP] at h2; exact h2)
  · intro ys w' hB hF
    have f7 : ys 7 = .bool b := hF 7 (by decide)
    clear hF
    simp only [fillA, Act.put, List.setIfInBounds_toArray, List.set_cons_succ, List.set_cons_zero, Nat.zero_add, Nat.reduceAdd, f7]
    clear f7
    go_wp2_with fail
    go_ret
    exact ⟨rfl, hB⟩
theorem ds_take {l r : Ds} {k : Nat} {x : Nat × List UInt8} (h : l.take k = r.take k) (h1 : l[k]? = some x) (h2 : r[k]? = some x) : l.take (k + 1) = r.take (k + 1) := by
  rw [List.take_add_one, List.take_add_one, h, h1, h2]
set_option maxHeartbeats 2000000 in
set_option maxRecDepth 100000 in
theorem rsame_any {v u : Value} {l r : Ds} {lk lk' : Bool} {w : World} (h1 : DL w v l) (h2 : DL w u r) (hn : l.length ≤ 1000) : Calls Tryd.prog 14 #[.agg #[v, .bool lk], .agg #[u, .bool lk']] w fun e w' => e = .returned (.bool ((lk == lk') && decide (l = r))) ∧ Gr w w' := by
  obtain ⟨a, c, rfl⟩ := h1.form
  obtain ⟨a', c', rfl⟩ := h2.form
  obtain ⟨R, hR⟩ : ∃ R, R = ((lk == lk') && decide (l = r)) := ⟨_, rfl⟩
  rw [← hR]
  have HR := Lib.hid hR
  clear hR
  have hb3 := heap_alloc_new (w.alloc (.cells #[.slice a l.length c, .bool lk] 35)) (.cells #[.slice a' r.length c', .bool lk'] 35)
  have hb2 := ((Gr.refl (w.alloc (.cells #[.slice a l.length c, .bool lk] 35))).alloc (.cells #[.slice a' r.length c', .bool lk'] 35)).blk (heap_alloc_new w (.cells #[.slice a l.length c, .bool lk] 35))
  have hg0 : Gr w ((w.alloc (.cells #[.slice a l.length c, .bool lk] 35)).alloc (.cells #[.slice a' r.length c', .bool lk'] 35)) := ((Gr.refl w).alloc _).alloc _
  have hs1 : (w.alloc (.cells #[.slice a l.length c, .bool lk] 35)).heap.size = w.heap.size + 1 := by simp
  rw [hs1] at hb3
  go_enter Tryd.func14, Tryd.ntmps14
  go_upto_region 1 with fail
  obtain ⟨w1, hw1⟩ : ∃ w1, w1 = ((w.alloc (.cells #[.slice a l.length c, .bool lk] 35)).alloc (.cells #[.slice a' r.length c', .bool lk'] 35)) := ⟨_, rfl⟩
  obtain ⟨b2, hb2d⟩ : ∃ b, b = w.heap.size := ⟨_, rfl⟩
  obtain ⟨b3, hb3d⟩ : ∃ b, b = w.heap.size + 1 := ⟨_, rfl⟩
  rw [← hw1] at hb2 hb3 hg0 ⊢
  rw [← hb3d] at hb3 ⊢
  rw [← hb2d] at hb2 ⊢
  have z0 : w1.cell? ⟨b2, 0, none⟩ = some (.slice a l.length c) := cell_of_row hb2 0 _ rfl
  have z1 : w1.cell? ⟨b2, 1, none⟩ = some (.bool lk) := cell_of_row hb2 1 _ rfl
  have y0 : w1.cell? ⟨b3, 0, none⟩ = some (.slice a' r.length c') := cell_of_row hb3 0 _ rfl
  have y1 : w1.cell? ⟨b3, 1, none⟩ = some (.bool lk') := cell_of_row hb3 1 _ rfl
  have H1 := Lib.hid (h1.gr hg0)
  have H2 := Lib.hid (h2.gr hg0)
  clear hw1 hb2d hb3d hs1 hb2 hb3 h1 h2
  by_cases hlk : lk = lk'
  case neg =>
    have hR2 : R = false := by rw [HR.out, beq_eq_false_iff_ne.2 hlk, Bool.false_and]
    subst hR2
    have hl1 : (lk == lk') = false := beq_eq_false_iff_ne.2 hlk
    have hl2 : (lk != lk') = true := by simpa using hlk
    clear hlk
    go_wp2_with fail
    go_ret
    exact ⟨rfl, hg0⟩
  subst hlk
  by_cases hlen : l.length = r.length
  case neg =>
    have hR2 : R = false := by rw [HR.out, decide_eq_false (fun e => hlen (by rw [e])), Bool.and_false]
    subst hR2
    have hl1 : ((l.length : Int) == (r.length : Int)) = false := by simp; omega
    have hl2 : ((l.length : Int) != (r.length : Int)) = true := by simp; omega
    clear hlen
    go_wp2_with fail
    go_ret
    exact ⟨rfl, hg0⟩
  have HL := Lib.hid hlen
  have hl2 : ((l.length : Int) != (r.length : Int)) = false := by simp; omega
  rw [← hlen] at y0
  have hlr : r.length = l.length := hlen.symm
  clear hlen
  go_upto_region 4 with fail
  go_loopw [5] (fun iv wr => ∃ k : Nat, iv = .int .i64 (k : Int) ∧ k ≤ l.length ∧ Hid (l.take k = r.take k) ∧ Gr w1 wr) (fun iv _ => l.length - (intOf iv).toNat)
  case atStart => exact ⟨0, rfl, Nat.zero_le _, Lib.hid rfl, .refl _⟩
  case round =>
    obtain ⟨k, rfl, hk, htk, hgr⟩ := hrel
    have z0 := hgr.cellAt z0
    have y0 := hgr.cellAt y0
    by_cases hlt : k < l.length
    · have hki : (k : Int) < (l.length : Int) := by omega
      have hk0 : (0 : Int) ≤ (k : Int) := by omega
      have hkr : k < r.length := by omega
      obtain ⟨x, hx⟩ : ∃ x, l[k]? = some x := ⟨_, List.getElem?_eq_getElem hlt⟩
      obtain ⟨y, hy⟩ : ∃ y, r[k]? = some y := ⟨_, List.getElem?_eq_getElem hkr⟩
      obtain ⟨g, rfl, x0, x1⟩ := (H1.out.gr hgr).at_ hx
      obtain ⟨g', rfl, x2, x3⟩ := (H2.out.gr hgr).at_ hy
      by_cases hxy : x = y
      · subst hxy
        have hT := Lib.hid (ds_take htk.out hx hy)
        clear hx hy htk hkr
        go_wp2_with fail
        go_quiet (fail)
        go_wp2_with fail
        go_roundw
        case rel => exact ⟨k + 1, by go_num, by omega, hT, by (repeat (first | with_reducible exact Gr.refl _ | with_reducible assumption | with_reducible refine Gr.setCell ?_ (by simp; try omega) _ | with_reducible refine Gr.alloc ?_ _ | with_reducible refine Gr.drew ?_ | with_reducible refine Gr.drewN ?_ _ | with_reducible refine Gr.trans ?_ (by assumption)))⟩
        case measure => simp [intOf]; omega
      · have hR2 : R = false := by
          rw [HR.out, decide_eq_false (fun e => by rw [e, hy] at hx; injection hx with hx; exact hxy hx.symm), Bool.and_false]
        subst hR2
        have hne : ((x.1 : Int) == (y.1 : Int) && ((bsl x.2).toList == (bsl y.2).toList)) = false := by
          rw [bsl_beq, Bool.and_eq_false_iff]
          by_cases h1 : x.1 = y.1
          · right
            rw [decide_eq_false_iff_not]
            intro h2
            exact hxy (Prod.ext h1 h2)
          · left; simp; omega
        clear hx hy htk hkr
        rcases Bool.and_eq_false_iff.1 hne with h | h
        · clear hne
          go_wp2_with fail
          go_quiet (fail)
          go_wp2_with fail
          go_ret
          exact ⟨rfl, hg0.trans (by (repeat (first | with_reducible exact Gr.refl _ | with_reducible assumption | with_reducible refine Gr.setCell ?_ (by simp; try omega) _ | with_reducible refine Gr.alloc ?_ _ | with_reducible refine Gr.drew ?_ | with_reducible refine Gr.drewN ?_ _ | with_reducible refine Gr.trans ?_ (by assumption))))⟩
        · go_wp2_with fail
          go_quiet (fail)
          go_wp2_with fail
          go_ret
          exact ⟨rfl, hg0.trans (by (repeat (first | with_reducible exact Gr.refl _ | with_reducible assumption | with_reducible refine Gr.setCell ?_ (by simp; try omega) _ | with_reducible refine Gr.alloc ?_ _ | with_reducible refine Gr.drew ?_ | with_reducible refine Gr.drewN ?_ _ | with_reducible refine Gr.trans ?_ (by assumption))))⟩
    · obtain rfl : k = l.length := by omega
      have hki : ¬ (l.length : Int) < (l.length : Int) := by omega
      have hR2 : R = true := by
        have h := htk.out
        rw [List.take_length, List.take_of_length_le (by omega)] at h
        rw [HR.out, decide_eq_true h]; simp
      subst hR2
      clear htk
      go_wp2_with fail
      go_ret
      exact ⟨rfl, hg0.trans hgr⟩
end Go.Proofs.YtdfohcnejdhkiaaDoor
