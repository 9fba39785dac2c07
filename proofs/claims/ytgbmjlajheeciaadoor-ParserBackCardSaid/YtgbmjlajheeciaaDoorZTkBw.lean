/-
  A row of the document's tokens, whatever memory they lie in; the laws' Are over such a row.
-/
import Derived.Test.YtgbmjlajheeciaaDoorZPdM
import Derived.Test.YtgbmjlajheeciaaDoorZTkTs
import Derived.Test.YtgbmjlajheeciaaDoorZTkX
namespace Go.Proofs.YtgbmjlajheeciaaDoor
set_option linter.unusedSimpArgs false
set_option linter.unusedVariables false
open Go.RowKit
set_option linter.unusedVariables false

/-- A token's two slices, wherever they lie. -/
def RdQ (w : World) (t : Tok) (q : Value × Value) : Prop := ∃ (a1 : Option Addr) (n1 c1 : Nat) (a2 : Option Addr) (n2 c2 : Nat), q = (.slice a1 n1 c1, .slice a2 n2 c2) ∧ RdTok w t a1 n1 a2 n2
theorem RdQ.gr {w w' : World} {t : Tok} {q : Value × Value} (h : RdQ w t q) (hg : Gr w w') : RdQ w' t q := by
  obtain ⟨a1, n1, c1, a2, n2, c2, e, h⟩ := h
  exact ⟨a1, n1, c1, a2, n2, c2, e, h.gr hg⟩
structure AR (w : World) (ts : List Tok) (v : Value) (qs : List (Value × Value)) : Prop where
  row : w.ownsRow 0 25 6 v ts.length (tsCells ts qs)
  len : qs.length = ts.length
  toks : ∀ (i : Nat) (t : Tok) (q : Value × Value), ts[i]? = some t → qs[i]? = some q → TRange t ∧ RdQ w t q
theorem AR.gr {w w' : World} {ts : List Tok} {v : Value} {qs : List (Value × Value)} (h : AR w ts v qs) (hg : Gr w w') : AR w' ts v qs :=
  ⟨ownsRow_gr h.row hg, h.len, fun i t q ht hq => ⟨(h.toks i t q ht hq).1, (h.toks i t q ht hq).2.gr hg⟩⟩
set_option maxRecDepth 100000 in
theorem same_rdq {w : World} {t : Tok} {q q' : Value × Value} (hr : TRange t) (h1 : RTok w t q) (h2 : RdQ w t q') :
    Calls Tryd.prog 12 #[.agg (tcells t q).toArray, .agg (tcells t q').toArray] w fun e w' => e = .returned (.bool true) ∧ Gr w w' := by
  obtain ⟨a1, n1, c1, a2, n2, c2, rfl, h2⟩ := h2
  obtain ⟨qp, qd⟩ := q
  obtain ⟨b1, d1, hf1⟩ := h1.params.form
  obtain ⟨b2, d2, hf2⟩ := h1.data.form
  simp only at hf1 hf2
  subst hf1; subst hf2
  have hs := h2.small
  have e1 := h2.plen
  have e2 := h2.dlen
  subst e1
  subst e2
  have h := rsame_any (c1 := d1) (c2 := d2) (d1 := c1) (d2 := c2) hr hr (RdTok.of_r h1 rfl rfl hs) h2
  rw [(sameT_iff t t).2 rfl] at h
  exact h

set_option maxRecDepth 100000 in
set_option maxHeartbeats 2000000 in
theorem are_rdq {w : World} {ts : List Tok} {v1 v2 : Value} {qs rs : List (Value × Value)} (h1 : AT 27 w ts v1 qs) (h2 : AR w ts v2 rs) (hn : ts.length ≤ 200000) :
    Calls Tryd.prog 22 #[v1, v2] w fun e w' => e = .returned (.bool true) ∧ Gr w w' := by
  obtain ⟨a1, c1, rfl⟩ := row_form h1.row
  obtain ⟨a2, c2, rfl⟩ := row_form h2.row
  go_enter Tryd.func22, Tryd.ntmps22
  go_wp2_with fail
  go_loopw [13] (fun i wr => ∃ k : Nat, k ≤ ts.length ∧ i = .int .i64 k ∧ Gr w wr) (fun i _ => ts.length - (intOf i).toNat)
  case atStart => exact ⟨0, Nat.zero_le _, rfl, .refl _⟩
  case round =>
    obtain ⟨k, hk, rfl, hg⟩ := hrel
    by_cases hlt : k < ts.length
    · have hA := h1.gr hg
      have hB := h2.gr hg
      obtain ⟨g1, p1, t, q, hv1, ht, hq, hr1⟩ := tok_range hA.row hA.len hlt
      obtain ⟨g2, p2, t', q', hv2, ht', hq', hr2⟩ := tok_range hB.row hB.len hlt
      injection hv1 with e1 e2 e3
      injection hv2 with e4 e5 e6
      subst e1; subst e4
      rw [ht] at ht'; injection ht' with ht'; subst ht'
      have r1 := hA.toks k t q ht hq
      obtain ⟨r0, r2⟩ := hB.toks k t q' ht hq'
      have hkn : (k : Int) < (ts.length : Int) := by omega
      have k0 : (0 : Int) ≤ (k : Int) := by omega
      clear hA hB h1 h2 ht hq hq' e2 e3 e5 e6
      go_wp2_with fail
      refine wp_region_facts (FactA t q q' (.slice (some ⟨g1, 0, none⟩) ts.length c1) (.slice (some ⟨g2, 0, none⟩) ts.length c2) g1 g2 k) (fun w' => Gr wr w') (by kernel_rfl) (by kernel_rfl) (by kernel_rfl) ?_ ?_ ?_
      · exact (Gr.refl wr).drew
      · refine Steps.cons1 1 rfl rfl ?_ (Steps.cons1 2 rfl rfl ?_ (Steps.cons1 3 rfl rfl ?_ (Steps.cons1 4 rfl rfl ?_ (Steps.cons1 5 rfl rfl ?_ (Steps.cons1 6 rfl rfl ?_ (Steps.cons1 7 rfl rfl ?_ (Steps.cons1 8 rfl rfl ?_ (Steps.cons1 9 rfl rfl ?_ (Steps.cons1 10 rfl rfl ?_ (Steps.cons1 11 rfl rfl ?_ (Steps.nil)))))))))))
        · (intro ys w' hB hP K hK; simp only [Preds, Region.binds, FactA, forall_const, and_true, true_and] at hP; simp only [fillA]; go_simp; (have h2 := fun v => hK v w' hB); simp only [FactA, forall_eq] at h2; (have h2 := h2 (fun _ _ _ h => h)); simp [fillA, Act.put, hP] at h2; exact h2)
        · (intro ys w' hB hP K hK; simp only [Preds, Region.binds, FactA, forall_const, and_true, true_and] at hP; simp only [fillA]; go_simp; (have h2 := fun v => hK v w' hB); simp only [FactA, forall_eq] at h2; (have h2 := h2 (fun _ _ _ h => h)); simp [fillA, Act.put, hP] at h2; exact h2)
        · (intro ys w' hB hP K hK; simp only [Preds, Region.binds, FactA, forall_const, and_true, true_and] at hP; simp only [fillA]; go_simp; (have h2 := fun v => hK v w' hB); simp only [FactA, forall_eq] at h2; (have h2 := h2 (fun _ _ _ h => h)); simp [fillA, Act.put, hP] at h2; exact h2)
        · (intro ys w' hB hP; simp only [Preds, Region.binds, FactA, forall_const, and_true, true_and] at hP)
          intro K hK
          simp only [fillA]
          have hc : w'.rangeAt g1 (k * 6) (tcells t q) := fun j u hj => hB.cellAt (hr1 j u hj)
          have key : ∀ {o : Oper} {a : Act} {Q : Exit → Act → World → Prop} (x : Operand), o.op = .load 27 x → a.eval x = .pointer (some ⟨g1, k * 6, none⟩) → K (a.put o.dst (.agg (tcells t q).toArray)) w' → o.wp Tryd.prog a w' K Q := fun x ho hx h => wp_load_ptok x ho g1 (k * 6) hx hc h
          with_reducible refine key (.tmp 18) rfl ?_ ?_
          · simp [Act.eval, Act.put, hP]
          have h2 := fun v => hK v w' hB
          simp only [FactA, forall_eq] at h2
          have h2 := h2 (fun _ _ _ h => h)
          simp [fillA, Act.put, hP] at h2 ⊢
          exact h2
        · (intro ys w' hB hP; simp only [Preds, Region.binds, FactA, forall_const, and_true, true_and] at hP)
          obtain ⟨qp, qd⟩ := q
          obtain ⟨b1, d1, hf1⟩ := r1.params.form
          obtain ⟨b2, d2, hf2⟩ := r1.data.form
          simp only at hf1 hf2
          subst hf1; subst hf2
          intro K hK
          simp only [fillA]
          go_simp
          refine (told_any t _ _ _ _ _ _ _).mono ?_
          rintro e w1 ⟨rfl, hg1⟩
          have h2 := hK _ w1 (hB.trans hg1) rfl (fun j u _ h => by unfold FactA at h ⊢; split <;> first | exact h | trivial)
          simp [fillA, Act.put, hP] at h2
          exact h2
        · (intro ys w' hB hP K hK; simp only [Preds, Region.binds, FactA, forall_const, and_true, true_and] at hP; simp only [fillA]; go_simp; (have h2 := fun v => hK v w' hB); simp only [FactA, forall_eq] at h2; (have h2 := h2 (fun _ _ _ h => h)); simp [fillA, Act.put, hP] at h2; exact h2)
        · (intro ys w' hB hP K hK; simp only [Preds, Region.binds, FactA, forall_const, and_true, true_and] at hP; simp only [fillA]; go_simp; (have h2 := fun v => hK v w' hB); simp only [FactA, forall_eq] at h2; (have h2 := h2 (fun _ _ _ h => h)); simp [fillA, Act.put, hP] at h2; exact h2)
        · (intro ys w' hB hP K hK; simp only [Preds, Region.binds, FactA, forall_const, and_true, true_and] at hP; simp only [fillA]; go_simp; (have h2 := fun v => hK v w' hB); simp only [FactA, forall_eq] at h2; (have h2 := h2 (fun _ _ _ h => h)); simp [fillA, Act.put, hP] at h2; exact h2)
        · (intro ys w' hB hP; simp only [Preds, Region.binds, FactA, forall_const, and_true, true_and] at hP)
          intro K hK
          simp only [fillA]
          have hc : w'.rangeAt g2 (k * 6) (tcells t q') := fun j u hj => hB.cellAt (hr2 j u hj)
          have key : ∀ {o : Oper} {a : Act} {Q : Exit → Act → World → Prop} (x : Operand), o.op = .load 25 x → a.eval x = .pointer (some ⟨g2, k * 6, none⟩) → K (a.put o.dst (.agg (tcells t q').toArray)) w' → o.wp Tryd.prog a w' K Q := fun x ho hx h => wp_load_rtok x ho g2 (k * 6) hx hc h
          with_reducible refine key (.tmp 23) rfl ?_ ?_
          · simp [Act.eval, Act.put, hP]
          have h2 := fun v => hK v w' hB
          simp only [FactA, forall_eq] at h2
          have h2 := h2 (fun _ _ _ h => h)
          simp [fillA, Act.put, hP] at h2 ⊢
          exact h2
        · (intro ys w' hB hP; simp only [Preds, Region.binds, FactA, forall_const, and_true, true_and] at hP)
          intro K hK
          simp only [fillA]
          go_simp
          refine (same_rdq r0 (r1.gr hB) (r2.gr hB)).mono ?_
          rintro e w1 ⟨rfl, hg1⟩
          have h2 := hK _ w1 (hB.trans hg1) rfl (fun j u _ h => by unfold FactA at h ⊢; split <;> first | exact h | trivial)
          simp [fillA, Act.put, hP] at h2
          exact h2
        · (intro ys w' hB hP K hK; simp only [Preds, Region.binds, FactA, forall_const, and_true, true_and] at hP; simp only [fillA]; go_simp; (have h2 := fun v => hK v w' hB); simp only [FactA, forall_eq] at h2; (have h2 := h2 (fun _ _ _ h => h)); simp [fillA, Act.put, hP] at h2; exact h2)
      · intro ys w' hB hF
        have f10 : ys 10 = .bool false := hF 10 (by decide)
        clear hF
        simp only [fillA, Act.put, List.setIfInBounds_toArray, List.set_cons_succ, List.set_cons_zero, Nat.zero_add, Nat.reduceAdd, f10]
        go_wp2_with fail
        go_roundw
        case rel => exact ⟨k + 1, by omega, by go_num, hg.trans hB⟩
        case measure => simp [intOf]; omega
    · have hkn : ¬ (k : Int) < (ts.length : Int) := by omega
      clear h1 h2
      go_wp2_with fail
      go_ret
      exact ⟨rfl, hg⟩

/-! ### What a token's bytes take -/
theorem pairR_le2 (c : Int) (eight : Bool) : (pairR c eight).length ≤ 2 := by unfold pairR; split <;> simp
theorem bytesR_len {t : Tok} (h : checkR t = 0) (eight : Bool) : (bytesR t eight).length ≤ 4300 := by
  have hg : greatB t.params t.inters t.data = false := by
    unfold checkR at h
    split at h
    · cases h
    · split at h
      · cases h
      · rename_i hg
        simpa using hg
  have hG : ¬ Great t.params t.inters t.data := fun hh => by rw [(greatB_iff _ _ _).2 hh] at hg; cases hg
  have h1 : t.inters.length ≤ 3 := by
    rcases Nat.lt_or_ge 3 t.inters.length with hh | hh
    · exact absurd (.inl hh) hG
    · exact hh
  have h2 : t.data.length ≤ 4096 := by
    rcases Nat.lt_or_ge 4096 t.data.length with hh | hh
    · exact absurd (.inr (.inr (.inl hh))) hG
    · exact hh
  have h3 := fmtR_len t.params
  have p1 := pairR_le2 t.code eight
  have p2 := pairR_le2 (begR t.kind) eight
  have p3 := pairR_le2 92 eight
  have hm : (if t.mark ≠ 0 then [t.mark] else []).length ≤ 1 := by split <;> simp
  unfold bytesR
  split
  · simp
  · split
    · split
      · omega
      · simp only [List.length_cons, List.length_append, List.length_nil]; omega
    · have q1 : (if t.kind < 6 then (if t.mark ≠ 0 then [t.mark] else []) ++ fmtR t.params ++ t.inters ++ [t.code] else []).length ≤ 185 := by
        split
        · simp only [List.length_append, List.length_cons, List.length_nil]; omega
        · simp
      have q2 : (if 4 < t.kind then t.data ++ pairR 92 eight else []).length ≤ 4098 := by
        split
        · simp only [List.length_append]; omega
        · simp
      rw [List.length_append, List.length_append]
      omega
theorem backs_len (ts : List Tok) (h : ∀ t ∈ ts, checkR t = 0) (eight : Bool) : (ts.flatMap fun t => bytesR t eight).length ≤ ts.length * 4300 := by
  induction ts with
  | nil => simp
  | cons t l ih =>
    have h1 := bytesR_len (h t (by simp)) eight
    have h2 := ih fun x hx => h x (by simp [hx])
    rw [List.flatMap_cons, List.length_append, List.length_cons]
    omega
end Go.Proofs.YtgbmjlajheeciaaDoor
