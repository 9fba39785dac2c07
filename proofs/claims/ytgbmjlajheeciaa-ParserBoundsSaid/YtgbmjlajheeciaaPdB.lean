/-
  The laws' Are, walked: a row of tokens against a row of the document's, both the same list.
-/
import Derived.Test.YtgbmjlajheeciaaPdA
namespace Go.Proofs.Ytgbmjlajheeciaa
set_option linter.unusedSimpArgs false
set_option linter.unusedVariables false
open Go.RowKit

/-- A row of tokens, of the program's type or the document's. -/
structure AT (e : TypeId) (w : World) (ts : List Tok) (v : Value) (qs : List (Value × Value)) : Prop where
  row : w.ownsRow 0 e 6 v ts.length (tsCells ts qs)
  len : qs.length = ts.length
  toks : ∀ (i : Nat) (t : Tok) (q : Value × Value), ts[i]? = some t → qs[i]? = some q → RTok w t q
theorem ownsRow_zero {w : World} {B e size n : Nat} {v : Value} {xs : List Value} (h : w.ownsRow B e size v n xs) : w.ownsRow 0 e size v n xs := by
  refine ⟨h.1, ?_⟩
  rcases h.2 with h2 | ⟨g, cap, cur, hv, hg, r⟩
  · exact .inl h2
  · exact .inr ⟨g, cap, cur, hv, Nat.zero_le _, r⟩
theorem TMem.rt {lv : List Nat} {w : World} {t : Tok} {pv dv : Value} (h : TMem lv w t pv dv) : RTok w t (pv, dv) := ⟨h.params, h.data⟩
theorem Toks.at_ {lv : List Nat} {w : World} {ts : List Tok} {ov : Value} {qs : List (Value × Value)} (h : Toks lv w ts ov qs) : AT 31 w ts ov qs :=
  ⟨h.row, h.len, fun i t q ht hq => (h.toks i t q ht hq).rt⟩
theorem RTs.at_ {w : World} {B : Nat} {ts : List Tok} {v : Value} {qs : List (Value × Value)} (h : RTs w B ts v qs) : AT 52 w ts v qs := ⟨ownsRow_zero h.row, h.len, h.toks⟩
theorem AT.gr {e : TypeId} {w w' : World} {ts : List Tok} {v : Value} {qs : List (Value × Value)} (h : AT e w ts v qs) (hg : Gr w w') : AT e w' ts v qs :=
  ⟨ownsRow_gr h.row hg, h.len, fun i t q ht hq => (h.toks i t q ht hq).gr hg⟩

theorem ptok_size : (Try.prog.info? 31).map (·.size) = some 6 := by kernel_rfl
theorem wp_load_ptok {o : Oper} {a : Act} {w : World} {K : Act → World → Prop} {Q : Exit → Act → World → Prop} (x : Operand) (ho : o.op = .load 31 x) (g off : Nat) (hx : a.eval x = .pointer (some ⟨g, off, none⟩)) {t : Tok} {q : Value × Value} (hc : w.rangeAt g off (tcells t q))
    (h : K (a.put o.dst (.agg (tcells t q).toArray)) w) : o.wp Try.prog a w K Q :=
  wp_load_mid 31 x ho g off hx (tcells t q) _ hc Try.underlying31 rfl ptok_size h
theorem rtok_size : (Try.prog.info? 52).map (·.size) = some 6 := by kernel_rfl
theorem wp_load_rtok {o : Oper} {a : Act} {w : World} {K : Act → World → Prop} {Q : Exit → Act → World → Prop} (x : Operand) (ho : o.op = .load 52 x) (g off : Nat) (hx : a.eval x = .pointer (some ⟨g, off, none⟩)) {t : Tok} {q : Value × Value} (hc : w.rangeAt g off (tcells t q))
    (h : K (a.put o.dst (.agg (tcells t q).toArray)) w) : o.wp Try.prog a w K Q :=
  wp_load_mid 52 x ho g off hx (tcells t q) _ hc Try.underlying52 rfl rtok_size h
def FactA (t : Tok) (q q' : Value × Value) (v1 v2 : Value) (g1 g2 i : Nat) : Nat → Value → World → Prop
  | 0, v, _ => v = v1
  | 1, v, _ => v = .int .i64 i
  | 2, v, _ => v = .pointer (some ⟨g1, i * 6, none⟩)
  | 3, v, _ => v = .agg (tcells t q).toArray
  | 4, v, _ => v = .agg (tcells t q).toArray
  | 5, v, _ => v = v2
  | 6, v, _ => v = .int .i64 i
  | 7, v, _ => v = .pointer (some ⟨g2, i * 6, none⟩)
  | 8, v, _ => v = .agg (tcells t q').toArray
  | 9, v, _ => v = .bool true
  | 10, v, _ => v = .bool false
  | _, _, _ => True

set_option maxRecDepth 100000 in
set_option maxHeartbeats 2000000 in
theorem are_walk {w : World} {ts : List Tok} {v1 v2 : Value} {qs rs : List (Value × Value)} (h1 : AT 31 w ts v1 qs) (h2 : AT 52 w ts v2 rs) (hn : ts.length ≤ 200000) (hp : ∀ t ∈ ts, t.params.length ≤ 100000) :
    Calls Try.prog 14 #[v1, v2] w fun e w' => e = .returned (.bool true) ∧ Gr w w' := by
  obtain ⟨a1, c1, rfl⟩ := row_form h1.row
  obtain ⟨a2, c2, rfl⟩ := row_form h2.row
  go_enter Try.func14, Try.ntmps14
  go_wp2_with fail
  go_loopw [13] (fun i wr => ∃ k : Nat, k ≤ ts.length ∧ i = .int .i64 k ∧ Gr w wr) (fun i _ => ts.length - (intOf i).toNat)
  case atStart => exact ⟨0, Nat.zero_le _, rfl, .refl _⟩
  case round =>
    obtain ⟨k, hk, rfl, hg⟩ := hrel
    by_cases hlt : k < ts.length
    · have hA := h1.gr hg
      have hB := h2.gr hg
      obtain ⟨g1, p1, t, q, hv1, ht, hq, hr1⟩ := tok_range hA.row hA.len hlt
      obtain ⟨g2, p2, t', q', hv2, ht', hq', hr2⟩ := tok_range hB.row hB.len hlt
      injection hv1 with e1 e2 e3
      injection hv2 with e4 e5 e6
      subst e1; subst e4
      rw [ht] at ht'; injection ht' with ht'; subst ht'
      have hpt := hp t (List.mem_of_getElem? ht)
      have r1 := hA.toks k t q ht hq
      have r2 := hB.toks k t q' ht hq'
      have hkn : (k : Int) < (ts.length : Int) := by omega
      have k0 : (0 : Int) ≤ (k : Int) := by omega
      clear hA hB h1 h2 hp ht hq hq' e2 e3 e5 e6
      go_wp2_with fail
      refine wp_region_facts (FactA t q q' (.slice (some ⟨g1, 0, none⟩) ts.length c1) (.slice (some ⟨g2, 0, none⟩) ts.length c2) g1 g2 k) (fun w' => Gr wr w') (by kernel_rfl) (by kernel_rfl) (by kernel_rfl) ?_ ?_ ?_
      · exact (Gr.refl wr).drew
      · refine Steps.cons1 1 rfl rfl ?_ (Steps.cons1 2 rfl rfl ?_ (Steps.cons1 3 rfl rfl ?_ (Steps.cons1 4 rfl rfl ?_ (Steps.cons1 5 rfl rfl ?_ (Steps.cons1 6 rfl rfl ?_ (Steps.cons1 7 rfl rfl ?_ (Steps.cons1 8 rfl rfl ?_ (Steps.cons1 9 rfl rfl ?_ (Steps.cons1 10 rfl rfl ?_ (Steps.cons1 11 rfl rfl ?_ (Steps.nil)))))))))))
        · (intro ys w' hB hP K hK; simp only [Preds, Region.binds, FactA, forall_const, and_true, true_and] at hP; simp only [fillA]; go_simp; (have h2 := fun v => hK v w' hB); simp only [FactA, forall_eq] at h2; (have h2 := h2 (fun _ _ _ h => h)); simp [fillA, Act.put, hP] at h2; exact h2)
        · (intro ys w' hB hP K hK; simp only [Preds, Region.binds, FactA, forall_const, and_true, true_and] at hP; simp only [fillA]; go_simp; (have h2 := fun v => hK v w' hB); simp only [FactA, forall_eq] at h2; (have h2 := h2 (fun _ _ _ h => h)); simp [fillA, Act.put, hP] at h2; exact h2)
        · (intro ys w' hB hP K hK; simp only [Preds, Region.binds, FactA, forall_const, and_true, true_and] at hP; simp only [fillA]; go_simp; (have h2 := fun v => hK v w' hB); simp only [FactA, forall_eq] at h2; (have h2 := h2 (fun _ _ _ h => h)); simp [fillA, Act.put, hP] at h2; exact h2)
        · (intro ys w' hB hP; simp only [Preds, Region.binds, FactA, forall_const, and_true, true_and] at hP)
          intro K hK
          simp only [fillA]
          have hc : w'.rangeAt g1 (k * 6) (tcells t q) := fun j u hj => hB.cellAt (hr1 j u hj)
          have key : ∀ {o : Oper} {a : Act} {Q : Exit → Act → World → Prop} (x : Operand), o.op = .load 31 x → a.eval x = .pointer (some ⟨g1, k * 6, none⟩) → K (a.put o.dst (.agg (tcells t q).toArray)) w' → o.wp Try.prog a w' K Q := fun x ho hx h => wp_load_ptok x ho g1 (k * 6) hx hc h
          with_reducible refine key (.tmp 18) rfl ?_ ?_
          · simp [Act.eval, Act.put, hP]
          have h2 := fun v => hK v w' hB
          simp only [FactA, forall_eq] at h2
          have h2 := h2 (fun _ _ _ h => h)
          simp [fillA, Act.put, hP] at h2 ⊢
          exact h2
        · (intro ys w' hB hP; simp only [Preds, Region.binds, FactA, forall_const, and_true, true_and] at hP)
          obtain ⟨qp, qd⟩ := q
          obtain ⟨b1, d1, hf1⟩ := r1.params.form
          obtain ⟨b2, d2, hf2⟩ := r1.data.form
          simp only at hf1 hf2
          subst hf1; subst hf2
          intro K hK
          simp only [fillA]
          go_simp
          refine (told_any t _ _ _ _ _ _ _).mono ?_
          rintro e w1 ⟨rfl, hg1⟩
          have h2 := hK _ w1 (hB.trans hg1) rfl (fun j u _ h => by unfold FactA at h ⊢; split <;> first | exact h | trivial)
          simp [fillA, Act.put, hP] at h2
          exact h2
        · (intro ys w' hB hP K hK; simp only [Preds, Region.binds, FactA, forall_const, and_true, true_and] at hP; simp only [fillA]; go_simp; (have h2 := fun v => hK v w' hB); simp only [FactA, forall_eq] at h2; (have h2 := h2 (fun _ _ _ h => h)); simp [fillA, Act.put, hP] at h2; exact h2)
        · (intro ys w' hB hP K hK; simp only [Preds, Region.binds, FactA, forall_const, and_true, true_and] at hP; simp only [fillA]; go_simp; (have h2 := fun v => hK v w' hB); simp only [FactA, forall_eq] at h2; (have h2 := h2 (fun _ _ _ h => h)); simp [fillA, Act.put, hP] at h2; exact h2)
        · (intro ys w' hB hP K hK; simp only [Preds, Region.binds, FactA, forall_const, and_true, true_and] at hP; simp only [fillA]; go_simp; (have h2 := fun v => hK v w' hB); simp only [FactA, forall_eq] at h2; (have h2 := h2 (fun _ _ _ h => h)); simp [fillA, Act.put, hP] at h2; exact h2)
        · (intro ys w' hB hP; simp only [Preds, Region.binds, FactA, forall_const, and_true, true_and] at hP)
          intro K hK
          simp only [fillA]
          have hc : w'.rangeAt g2 (k * 6) (tcells t q') := fun j u hj => hB.cellAt (hr2 j u hj)
          have key : ∀ {o : Oper} {a : Act} {Q : Exit → Act → World → Prop} (x : Operand), o.op = .load 52 x → a.eval x = .pointer (some ⟨g2, k * 6, none⟩) → K (a.put o.dst (.agg (tcells t q').toArray)) w' → o.wp Try.prog a w' K Q := fun x ho hx h => wp_load_rtok x ho g2 (k * 6) hx hc h
          with_reducible refine key (.tmp 23) rfl ?_ ?_
          · simp [Act.eval, Act.put, hP]
          have h2 := fun v => hK v w' hB
          simp only [FactA, forall_eq] at h2
          have h2 := h2 (fun _ _ _ h => h)
          simp [fillA, Act.put, hP] at h2 ⊢
          exact h2
        · (intro ys w' hB hP; simp only [Preds, Region.binds, FactA, forall_const, and_true, true_and] at hP)
          intro K hK
          simp only [fillA]
          go_simp
          refine (same_tok (r1.gr hB) (r2.gr hB) hpt).mono ?_
          rintro e w1 ⟨rfl, hg1⟩
          have h2 := hK _ w1 (hB.trans hg1) rfl (fun j u _ h => by unfold FactA at h ⊢; split <;> first | exact h | trivial)
          simp [fillA, Act.put, hP] at h2
          exact h2
        · (intro ys w' hB hP K hK; simp only [Preds, Region.binds, FactA, forall_const, and_true, true_and] at hP; simp only [fillA]; go_simp; (have h2 := fun v => hK v w' hB); simp only [FactA, forall_eq] at h2; (have h2 := h2 (fun _ _ _ h => h)); simp [fillA, Act.put, hP] at h2; exact h2)
      · intro ys w' hB hF
        have f10 : ys 10 = .bool false := hF 10 (by decide)
        clear hF
        simp only [fillA, Act.put, List.setIfInBounds_toArray, List.set_cons_succ, List.set_cons_zero, Nat.zero_add, Nat.reduceAdd, f10]
        go_wp2_with fail
        go_roundw
        case rel => exact ⟨k + 1, by omega, by go_num, hg.trans hB⟩
        case measure => simp [intOf]; omega
    · have hkn : ¬ (k : Int) < (ts.length : Int) := by omega
      clear h1 h2
      go_wp2_with fail
      go_ret
      exact ⟨rfl, hg⟩
end Go.Proofs.Ytgbmjlajheeciaa
