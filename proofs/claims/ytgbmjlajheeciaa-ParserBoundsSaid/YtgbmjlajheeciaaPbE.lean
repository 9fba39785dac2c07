/-
  The parser's method done, walked.
-/
import Derived.Test.YtgbmjlajheeciaaPbA
import Derived.Test.YtgbmjlajheeciaaPbD
namespace Go.Proofs.Ytgbmjlajheeciaa
set_option linter.unusedSimpArgs false
set_option linter.unusedVariables false
set_option linter.unusedSectionVars false
open Go.RowKit
variable [Bs]

variable {lv : List Nat} {w : World} {p o : Nat} {s : PS} {ts : List Tok}

set_option maxRecDepth 100000 in
set_option maxHeartbeats 1000000 in
theorem done_void (hv : s.void = true) (h : SS lv w p s o ts) : Calls Try.prog 60 #[.pointer (some ⟨p, 0, none⟩), .pointer (some ⟨o, 0, none⟩)] w fun e w' => e = .returned (.tuple #[]) ∧ ∃ lv', Stp lv w lv' w' ∧ SS lv' w' p PS.init o (ts ++ emit s) := by
  have hh := h
  obtain ⟨iv, dv, av, ov, qs, hS⟩ := h
  obtain ⟨k0, k1, k2, k3, k4, k5, k6, k7, k8, k9, k10, k11, k12, kf⟩ := cells13 hS.pm.blk
  rw [hv] at k12
  go_enter Try.func60, Try.ntmps60
  go_wp2_with (go_at_call 20; refine (reset_SS hh).mono ?_; rintro e w1 ⟨rfl, hs1, hS1⟩)
  go_end0
  exact ⟨rfl, lv, hs1, by simpa [emit, hv] using hS1⟩

/-- A new token's box: the cells of numbers and intermediates as they are filled. -/
def tbox (w : World) (T : Nat) (s : PS) (dv x3 x4 : Value) : Prop := w.heap[T]? = some (.cells #[.int .i64 s.kind, .int .u8 s.code, .int .u8 s.mark, x3, x4, dv] 31 (0, 0))
def rowP (T : Nat) (l : List Int) (v : Value) (w : World) : Prop := HasRow w 3 v l.length (icells l) ∧ ∀ k, v.ownBlock = some k → T < k
theorem rowP.set {T : Nat} {l : List Int} {v : Value} {w : World} (h : rowP T l v w) (i : Nat) (u : Value) : rowP T l v (w.setCell ⟨T, i, none⟩ u) :=
  ⟨h.1.same fun k hk => by rw [Below.heap_setCell _ _ _ _ (by have := h.2 k hk; simp; omega)], h.2⟩
theorem rowP.gr {T : Nat} {l : List Int} {v : Value} {w w' : World} (h : rowP T l v w) (hg : Gr w w') : rowP T l v w' := ⟨h.1.gr hg, h.2⟩
theorem tbox.set3 {w : World} {T : Nat} {s : PS} {dv x3 x4 : Value} (h : tbox w T s dv x3 x4) (u : Value) : tbox (w.setCell ⟨T, 3, none⟩ u) T s dv u x4 := by
  unfold tbox; rw [blk_set h 3 u]; rfl
theorem tbox.set4 {w : World} {T : Nat} {s : PS} {dv x3 x4 : Value} (h : tbox w T s dv x3 x4) (u : Value) : tbox (w.setCell ⟨T, 4, none⟩ u) T s dv x3 u := by
  unfold tbox; rw [blk_set h 4 u]; rfl
def BaseD (w : World) (s : PS) (dv : Value) (w' : World) : Prop := Gr w w' ∧ ∃ x3 x4, tbox w' w.heap.size s dv x3 x4
def FactD (w : World) (p : Nat) (s : PS) (iv dv : Value) : Nat → Value → World → Prop
  | 0, v, _ => v = .pointer (some ⟨p, 0, none⟩)
  | 1, v, _ => v = .pointer (some ⟨p, 0, none⟩)
  | 2, v, _ => v = .pointer (some ⟨p, 7, none⟩)
  | 3, v, _ => v = iv
  | 4, v, _ => v = .string (strOf s.inters)
  | 5, v, _ => v = .pointer (some ⟨p, 0, none⟩)
  | 6, v, _ => v = .pointer (some ⟨p, 0, none⟩)
  | 7, v, _ => v = .pointer (some ⟨p, 8, none⟩)
  | 8, v, w' => rowP w.heap.size (accList s) v w'
  | 9, v, _ => v = .pointer (some ⟨w.heap.size, 4, none⟩)
  | 10, _, w' => ∃ x3, tbox w' w.heap.size s dv x3 (.string (strOf s.inters))
  | 11, v, _ => v = .pointer (some ⟨w.heap.size, 3, none⟩)
  | 12, _, w' => ∃ x3 x4, rowP w.heap.size (accList s) x3 w' ∧ tbox w' w.heap.size s dv x3 x4
  | _, _, _ => True

theorem FactD.gr {w w1 w2 : World} {p : Nat} {s : PS} {iv dv v : Value} {j : Nat} (hg : Gr w1 w2) (h : FactD w p s iv dv j v w1) : FactD w p s iv dv j v w2 := by
  unfold FactD at h ⊢
  split <;> first | exact h | skip
  · exact rowP.gr h hg
  · obtain ⟨x3, h⟩ := h; exact ⟨x3, hg.blk h⟩
  · obtain ⟨x3, x4, h1, h2⟩ := h; exact ⟨x3, x4, h1.gr hg, hg.blk h2⟩
  · trivial
theorem FactD.set4 {w w1 : World} {p : Nat} {s : PS} {iv dv v : Value} {j : Nat} (h : FactD w p s iv dv j v w1) : FactD w p s iv dv j v (w1.setCell ⟨w.heap.size, 4, none⟩ (.string (strOf s.inters))) := by
  unfold FactD at h ⊢
  split <;> first | exact h | skip
  · exact rowP.set h _ _
  · obtain ⟨x3, h⟩ := h; exact ⟨x3, h.set4 _⟩
  · obtain ⟨x3, x4, h1, h2⟩ := h; exact ⟨x3, _, h1.set _ _, h2.set4 _⟩
  · trivial
theorem FactD.set3 {w w1 : World} {p : Nat} {s : PS} {iv dv v u : Value} {j : Nat} (hj : j ≠ 12) (h : FactD w p s iv dv j v w1) : FactD w p s iv dv j v (w1.setCell ⟨w.heap.size, 3, none⟩ u) := by
  unfold FactD at h ⊢
  split <;> first | exact h | skip
  · exact rowP.set h _ _
  · obtain ⟨x3, h⟩ := h; exact ⟨u, h.set3 _⟩
  · exact absurd rfl hj
  · trivial

theorem TMem.sub {lv lv' : List Nat} {w : World} {t : Tok} {pv dv : Value} (h : TMem lv w t pv dv) (hs : ∀ k ∈ lv', k ∈ lv) : TMem lv' w t pv dv :=
  ⟨h.params, h.data, fun k hk x => h.pOut k hk (hs k x), fun k hk x => h.dOut k hk (hs k x), h.pNew, h.dNew⟩
theorem OMem.sub {lv lv' : List Nat} {w : World} {o : Nat} {ts : List Tok} {ov : Value} {qs : List (Value × Value)} (h : OMem lv w o ts ov qs) (hs : ∀ k ∈ lv', k ∈ lv) (ho : o ∈ lv') (hr : ∀ k, ov.ownBlock = some k → k ∈ lv') : OMem lv' w o ts ov qs :=
  ⟨h.blk, h.row, h.len, fun i t q ht hq => (h.toks i t q ht hq).sub hs, ho, hr, h.bs⟩
theorem OMem.ro {lv : List Nat} {w : World} {o : Nat} {ts : List Tok} {ov : Value} {qs : List (Value × Value)} (h : OMem lv w o ts ov qs) : ov.ownBlock ≠ some o := row_ne h.row h.blk (by decide)

/-- What a new token leaves of the tokens. -/
theorem OMem.push {lv : List Nat} {w w1 : World} {o g : Nat} {ts : List Tok} {ov V : Value} {qs : List (Value × Value)} {t : Tok} {q : Value × Value} (h : OMem lv w o ts ov qs) (ht : TMem lv w t q.1 q.2) (hg : Grew w w1 ov V g)
    (hV : w1.ownsRow Bs.b 31 6 V (ts.length + 1) (tsCells ts qs ++ tcells t q)) :
    OMem (g :: lv) (w1.setCell ⟨o, 0, none⟩ V) o (ts ++ [t]) V (qs ++ [q]) ∧ Stp lv w (g :: lv) (w1.setCell ⟨o, 0, none⟩ V) ∧ Upd (o :: ov.ownBlock.toList) w (w1.setCell ⟨o, 0, none⟩ V) := by
  obtain ⟨hs, hu⟩ := hg.upd h.ro (blk_lt h.blk) 0 V h.rIn h.oIn
  have go : g ≠ o := (hg.ne (blk_lt h.blk) h.ro).symm
  have hgl : ∀ k, k < w.heap.size → k ∈ g :: lv → k ∈ lv := by
    intro k hk hl
    rcases List.mem_cons.1 hl with rfl | hl
    · rcases hg.at_ with e | e
      · exact h.rIn _ e
      · omega
    · exact hl
  have hKl : ∀ k, k < w.heap.size → k ∈ o :: ov.ownBlock.toList → k ∈ lv := by
    intro k _ hk
    simp at hk
    rcases hk with rfl | hk
    · exact h.oIn
    · exact h.rIn k hk
  refine ⟨⟨blk_set ((hg.new (blk_lt h.blk) h.ro).trans h.blk) 0 V, ?_, ?_, ?_, by simp [h.oIn], ?_, Nat.le_trans h.bs hu.size⟩, hs, hu⟩
  · rw [tsCells_append _ _ _ _ h.len, show (ts ++ [t]).length = ts.length + 1 by simp]
    exact ownsRow_same hV fun k hk => by
      rw [hg.own] at hk; injection hk with hk; subst hk
      rw [Below.heap_setCell _ _ _ _ go]
  · simp [h.len]
  · intro i t' q' hi hq
    rcases Nat.lt_or_ge i ts.length with hlt | hge
    · rw [List.getElem?_append_left hlt] at hi
      rw [List.getElem?_append_left (by rw [h.len]; exact hlt)] at hq
      exact (h.toks i t' q' hi hq).upd hu hKl hgl
    · rw [List.getElem?_append_right hge] at hi
      rw [List.getElem?_append_right (by rw [h.len]; exact hge)] at hq
      have hi0 : i - ts.length = 0 := by
        rcases hx : i - ts.length with _ | n
        · rfl
        · rw [hx] at hi; simp at hi
      rw [hi0] at hi
      rw [h.len, hi0] at hq
      simp at hi hq
      subst hi; subst hq
      exact ht.upd hu hKl hgl
  · intro k hk; rw [hg.own] at hk; injection hk with hk; simp [hk]

theorem tbox_fin {w w' : World} {s : PS} {dv : Value} (h1 : ∃ x3, tbox w' w.heap.size s dv x3 (.string (strOf s.inters))) (h2 : ∃ x3 x4, rowP w.heap.size (accList s) x3 w' ∧ tbox w' w.heap.size s dv x3 x4) :
    ∃ ra rc, rowP w.heap.size (accList s) (.slice ra (accList s).length rc) w' ∧ tbox w' w.heap.size s dv (.slice ra (accList s).length rc) (.string (strOf s.inters)) := by
  obtain ⟨y3, h1⟩ := h1
  obtain ⟨x3, x4, hr, h2⟩ := h2
  obtain ⟨ra, rc, rfl⟩ := hr.1.form
  refine ⟨ra, rc, hr, ?_⟩
  unfold tbox at h1 h2 ⊢
  rw [h2] at h1
  simp at h1
  rw [h2, h1.2]
/-- The token that a parser has come to. -/
def tokOf (s : PS) : Tok := ⟨s.kind, s.code, s.mark, accList s, s.inters, s.data⟩
/-- What may change, but not the bytes of the token. -/
def lvD (lv : List Nat) (w : World) (dv : Value) : List Nat := lv.filter fun k => decide (k < w.heap.size) && decide (dv.ownBlock ≠ some k)
theorem mem_lvD {lv : List Nat} {w : World} {dv : Value} {k : Nat} : k ∈ lvD lv w dv ↔ k ∈ lv ∧ k < w.heap.size ∧ dv.ownBlock ≠ some k := by simp [lvD, List.mem_filter]
theorem St.omD {lv : List Nat} {w : World} {p o : Nat} {s : PS} {iv dv av ov : Value} {ts : List Tok} {qs : List (Value × Value)} (h : St lv w p s iv dv av o ts ov qs) : OMem (lvD lv w dv) w o ts ov qs :=
  h.om.sub (fun k hk => (mem_lvD.1 hk).1) (mem_lvD.2 ⟨h.om.oIn, blk_lt h.om.blk, h.do_⟩) fun k hk => mem_lvD.2 ⟨h.om.rIn k hk, ownsRow_blk h.om.row hk, row_type h.om.row h.pm.data (by decide) hk⟩
theorem OMem.gr {lv : List Nat} {w w' : World} {o : Nat} {ts : List Tok} {ov : Value} {qs : List (Value × Value)} (h : OMem lv w o ts ov qs) (hg : Gr w w') : OMem lv w' o ts ov qs :=
  h.upd (Upd.of_gr (lv := []) hg) (by simp) (by simp) (by simp) (fun _ _ h => h) h.oIn h.rIn
theorem St.tokD {lv : List Nat} {w w' : World} {p o : Nat} {s : PS} {iv dv av ov x3 : Value} {ts : List Tok} {qs : List (Value × Value)} (h : St lv w p s iv dv av o ts ov qs) (hg : Gr w w') (hr : rowP w.heap.size (accList s) x3 w') : TMem (lvD lv w dv) w' (tokOf s) x3 dv :=
  ⟨hr.1, (HasRow.of_own h.pm.data).gr hg, fun k hk hm => by have := hr.2 k hk; have := (mem_lvD.1 hm).2.1; omega, fun k hk hm => (mem_lvD.1 hm).2.2 hk, fun k hk => by have := hr.2 k hk; have := h.pm.bs; omega, fun k hk => ownsRow_base h.pm.data hk⟩
theorem Gr.drew_l {a w : World} (h : Gr a w.drew) : Gr a w := ⟨h.os, h.tape, h.output, h.size, h.block⟩
theorem St.blkD {lv : List Nat} {w w2 w3 : World} {p o g : Nat} {s : PS} {iv dv av ov V : Value} {ts : List Tok} {qs : List (Value × Value)} (h : St lv w p s iv dv av o ts ov qs) (hg2 : Gr w w2) (hG : Grew w2 w3 ov V g) :
    (w3.setCell ⟨o, 0, none⟩ V).heap[p]? = some (.cells (pcells s iv dv av) 35 (0, 0)) :=
  blk_far ((hG.new (Nat.lt_of_lt_of_le (blk_lt h.pm.blk) hg2.size) h.rp).trans (hg2.blk h.pm.blk)) h.po _
/-- A parser that is reset, its tokens one more. -/
theorem St.doneFin {lv : List Nat} {w w2 w3 w4 : World} {p o g : Nat} {s : PS} {iv dv av ov V x3 : Value} {ts : List Tok} {qs : List (Value × Value)} (h : St lv w p s iv dv av o ts ov qs) (hg2 : Gr w w2)
    (hr : rowP w.heap.size (accList s) x3 w2) (hG : Grew w2 w3 ov V g) (hown : w3.ownsRow Bs.b 31 6 V (ts.length + 1) (tsCells ts qs ++ tcells (tokOf s) (x3, dv)))
    (hp4 : w4.heap[p]? = some (.cells (pcells PS.init (.slice none 0 0) (.slice none 0 0) (.slice none 0 0)) 35 (0, 0))) (hu : Upd [p] (w3.setCell ⟨o, 0, none⟩ V) w4) :
    ∃ lv', Stp lv w lv' w4 ∧ SS lv' w4 p PS.init o (ts ++ [tokOf s]) := by
  obtain ⟨hO, hs, hu3⟩ := (h.omD.gr hg2).push (q := (x3, dv)) (h.tokD hg2 hr) hG hown
  have hp2 : p < w2.heap.size := Nat.lt_of_lt_of_le (blk_lt h.pm.blk) hg2.size
  have hpl : p ∈ lvD lv w dv := mem_lvD.2 ⟨h.pm.pIn, blk_lt h.pm.blk, h.dp⟩
  have hp3 : p < (w3.setCell ⟨o, 0, none⟩ V).heap.size := Nat.lt_of_lt_of_le hp2 hu3.size
  have hgp : g ≠ p := by
    rcases hG.at_ with e | e
    · rintro rfl; exact h.rp e
    · omega
  have hO4 : OMem (g :: lvD lv w dv) w4 o (ts ++ [tokOf s]) V (qs ++ [(x3, dv)]) :=
    hO.upd hu (by simp; exact h.op) (fun k hk => by rw [hG.own] at hk; injection hk with hk; subst hk; simp; exact hgp) (fun k _ hk => by simp at hk; subst hk; simp [hpl]) (fun _ _ h => h) hO.oIn hO.rIn
  refine ⟨g :: lvD lv w dv, ?_, _, _, _, _, _, ⟨⟨hp4, World.ownsRow_nil _ _ _ _, World.ownsRow_nil _ _ _ _, World.ownsRow_nil _ _ _ _, by simp [hpl], by simp [Value.ownBlock], by simp [Value.ownBlock], by simp [Value.ownBlock], by simp [Value.ownBlock], hO4.bs⟩, hO4⟩⟩
  have h1 : Stp lv w (lvD lv w dv) w2 := ⟨.of_gr hg2, fun k hk => .inl (mem_lvD.1 hk).1⟩
  exact (h1.trans hs).trans (.one (by simp [hpl]) hu)

theorem step_pushO {lv : List Nat} {w : World} {o : Nat} {ts : List Tok} {ov : Value} {qs : List (Value × Value)} {ops : Array Oper} {u : Oper} {a : Act} {K : Act → World → Prop} {Q : Exit → Act → World → Prop} {E : Prop} (hgd : u.guard = none) (x y : Operand) (t : TypeId)
    (hu : u.op = .call { callee := .builtin .append, args := #[x, y], argTypes := #[t, t] }) (ht : Try.prog.underlying t = some (.slice 31)) (h : OMem lv w o ts ov qs) (tk : Tok) (q : Value × Value) (b : Nat)
    (hx : a.eval x = ov) (hy : a.eval y = .slice (some ⟨b, 0, none⟩) 1 1) (hb : w.heap[b]? = some (.cells (tcells tk q).toArray 31 (0, 0))) (hq : q.1.oneCell' = true ∧ q.2.oneCell' = true) (hn : ts.length ≤ 100000)
    (H : ∀ g cap w1, Grew w w1 ov (.slice (some ⟨g, 0, none⟩) (ts.length + 1) cap) g → w1.ownsRow Bs.b 31 6 (.slice (some ⟨g, 0, none⟩) (ts.length + 1) cap) (ts.length + 1) (tsCells ts qs ++ tcells tk q) →
      w1.heap[o]? = some (.cells #[ov] 36 (0, 0)) → K (a.put u.dst (.slice (some ⟨g, 0, none⟩) (ts.length + 1) cap)) w1) : if Region.wanted u (yielded ops a.tmps) = true then Oper.wp Try.prog u a w K Q else E := by
  refine step_pushN hgd x y t hu Bs.b 31 _ 6 80 ht token_info rfl (by omega) (by omega) _ _ _ (tcells tk q) h.row b hx hy hb rfl ?_ (by omega) h.bs ?_
  · intro v hv
    simp [tcells] at hv
    rcases hv with rfl | rfl | rfl | rfl | rfl | rfl
    all_goals first | rfl | exact hq.1 | exact hq.2
  · intro g cap w1 hG hown
    exact H g cap w1 hG hown ((hG.new (blk_lt h.blk) h.ro).trans h.blk)

set_option maxRecDepth 100000 in
set_option maxHeartbeats 1000000 in
theorem done_full (hv : s.void = false) (hok : s.ok) (hn : ts.length ≤ 100000) (h : SS lv w p s o ts) : Calls Try.prog 60 #[.pointer (some ⟨p, 0, none⟩), .pointer (some ⟨o, 0, none⟩)] w fun e w' => e = .returned (.tuple #[]) ∧ ∃ lv', Stp lv w lv' w' ∧ SS lv' w' p PS.init o (ts ++ emit s) := by
  have hh := h
  obtain ⟨iv, dv, av, ov, qs, hS⟩ := h
  obtain ⟨k0, k1, k2, k3, k4, k5, k6, k7, k8, k9, k10, k11, k12, kf⟩ := cells13 hS.pm.blk
  obtain ⟨ia, ic, rfl⟩ := row_form hS.pm.inters
  obtain ⟨da, dc, rfl⟩ := row_form hS.pm.data
  rw [hv] at k12
  go_enter Try.func60, Try.ntmps60
  go_wp2_with fail
  refine wp_region_facts (FactD w p s (.slice ia s.inters.length ic) (.slice da s.data.length dc)) (BaseD w s (.slice da s.data.length dc)) (by kernel_rfl) (by kernel_rfl) (by kernel_rfl) ?_ ?_ ?_
  · exact ⟨((Gr.refl w).alloc _).drew, _, _, heap_alloc_new w _⟩
  · refine Steps.cons1 1 rfl rfl ?_ (Steps.cons1 2 rfl rfl ?_ (Steps.cons1 3 rfl rfl ?_ (Steps.cons1 4 rfl rfl ?_ (Steps.cons1 5 rfl rfl ?_ (Steps.cons1 6 rfl rfl ?_ (Steps.cons1 7 rfl rfl ?_ (Steps.cons1 8 rfl rfl ?_ (Steps.cons1 9 rfl rfl ?_ (Steps.cons1 10 rfl rfl ?_ (Steps.cons1 11 rfl rfl ?_ (Steps.cons1 12 rfl rfl ?_ (Steps.cons1 13 rfl rfl ?_ (Steps.nil)))))))))))))
    · (intro ys w' hB hP K hK; simp only [Preds, Region.binds, FactD, forall_const, and_true, true_and] at hP; simp only [fillA]; go_simp; (have h2 := fun v => hK v w' hB); simp only [FactD, forall_eq] at h2; (have h2 := h2 (fun _ _ _ h => h)); simp [fillA, Act.put, hP] at h2; exact h2)
    · (intro ys w' hB hP K hK; simp only [Preds, Region.binds, FactD, forall_const, and_true, true_and] at hP; simp only [fillA]; go_simp; (have h2 := fun v => hK v w' hB); simp only [FactD, forall_eq] at h2; (have h2 := h2 (fun _ _ _ h => h)); simp [fillA, Act.put, hP] at h2; exact h2)
    · (intro ys w' hB hP K hK; simp only [Preds, Region.binds, FactD, forall_const, and_true, true_and] at hP; simp only [fillA]; go_simp; (have h2 := fun v => hK v w' hB); simp only [FactD, forall_eq] at h2; (have h2 := h2 (fun _ _ _ h => h)); simp [fillA, Act.put, hP] at h2; exact h2)
    · (intro ys w' hB hP; simp only [Preds, Region.binds, FactD, forall_const, and_true, true_and] at hP)
      have hg : Gr w w' := hB.1
      have q7 := cell_of_row (hg.blk hS.pm.blk) 7 _ rfl
      intro K hK
      simp only [fillA]
      go_simp
      have h2 := fun v => hK v w' hB
      simp only [FactD, forall_eq] at h2
      have h2 := h2 (fun _ _ _ h => h)
      simp [fillA, Act.put, hP] at h2
      exact h2
    · (intro ys w' hB hP; simp only [Preds, Region.binds, FactD, forall_const, and_true, true_and] at hP)
      have hc := conv_row ((HasRow.of_own hS.pm.inters).gr hB.1)
      intro K hK
      simp only [fillA]
      go_simp
      have h2 := fun v => hK v w' hB
      simp only [FactD, forall_eq] at h2
      have h2 := h2 (fun _ _ _ h => h)
      simp [fillA, Act.put, hP] at h2
      exact h2
    · (intro ys w' hB hP K hK; simp only [Preds, Region.binds, FactD, forall_const, and_true, true_and] at hP; simp only [fillA]; go_simp; (have h2 := fun v => hK v w' hB); simp only [FactD, forall_eq] at h2; (have h2 := h2 (fun _ _ _ h => h)); simp [fillA, Act.put, hP] at h2; exact h2)
    · (intro ys w' hB hP K hK; simp only [Preds, Region.binds, FactD, forall_const, and_true, true_and] at hP; simp only [fillA]; go_simp; (have h2 := fun v => hK v w' hB); simp only [FactD, forall_eq] at h2; (have h2 := h2 (fun _ _ _ h => h)); simp [fillA, Act.put, hP] at h2; exact h2)
    · (intro ys w' hB hP K hK; simp only [Preds, Region.binds, FactD, forall_const, and_true, true_and] at hP; simp only [fillA]; go_simp; (have h2 := fun v => hK v w' hB); simp only [FactD, forall_eq] at h2; (have h2 := h2 (fun _ _ _ h => h)); simp [fillA, Act.put, hP] at h2; exact h2)
    · (intro ys w' hB hP; simp only [Preds, Region.binds, FactD, forall_const, and_true, true_and] at hP)
      have hS2 : SS lv w' p s o ts := ⟨_, _, _, _, _, hS.gr hB.1⟩
      obtain ⟨hB1, x3, x4, hB2⟩ := hB
      have hT := blk_lt hB2
      intro K hK
      simp only [fillA]
      go_simp
      refine (list_walk hok hS2).mono ?_
      rintro e w1 ⟨v, rfl, hr, hk, hg⟩
      have h2 := hK v w1 ⟨hB1.trans hg, x3, x4, hg.blk hB2⟩ ⟨hr, fun k hk' => by have := hk k hk'; omega⟩ ?_
      · simp [fillA, Act.put, hP] at h2
        exact h2
      · exact fun j u _ h => h.gr hg
    · (intro ys w' hB hP K hK; simp only [Preds, Region.binds, FactD, forall_const, and_true, true_and] at hP; simp only [fillA]; go_simp; (have h2 := fun v => hK v w' hB); simp only [FactD, forall_eq] at h2; (have h2 := h2 (fun _ _ _ h => h)); simp [fillA, Act.put, hP] at h2; exact h2)
    · (intro ys w' hB hP; simp only [Preds, Region.binds, FactD, forall_const, and_true, true_and] at hP)
      obtain ⟨hB1, x3, x4, hB2⟩ := hB
      obtain ⟨hP1, hP2⟩ : ys 9 = .pointer (some ⟨w.heap.size, 4, none⟩) ∧ ys 4 = .string (strOf s.inters) := ⟨by simp [hP], by simp [hP]⟩
      clear hP
      have q4 := cell_of_row hB2 4 _ rfl
      have qf : ∀ i, w'.frozen? ⟨w.heap.size, i, none⟩ = false := fun i => by unfold tbox at hB2; simp [World.frozen?, hB2]
      intro K hK
      simp only [fillA]
      go_simp
      have h2 := hK undef (w'.setCell ⟨w.heap.size, 4, none⟩ (.string (strOf s.inters))) ⟨hB1.setCell (Nat.le_refl _) _, _, _, hB2.set4 _⟩ ⟨_, hB2.set4 _⟩ (fun j u _ h => h.set4)
      simp [fillA, Act.put, hP1, hP2] at h2
      exact h2
    · (intro ys w' hB hP K hK; simp only [Preds, Region.binds, FactD, forall_const, and_true, true_and] at hP; simp only [fillA]; go_simp; (have h2 := fun v => hK v w' hB); simp only [FactD, forall_eq] at h2; (have h2 := h2 (fun _ _ _ h => h)); simp [fillA, Act.put, hP] at h2; exact h2)
    · (intro ys w' hB hP; simp only [Preds, Region.binds, FactD, forall_const, and_true, true_and] at hP)
      obtain ⟨hB1, x3, x4, hB2⟩ := hB
      obtain ⟨hP1, hP2⟩ : ys 11 = .pointer (some ⟨w.heap.size, 3, none⟩) ∧ rowP w.heap.size (accList s) (ys 8) w' := ⟨by simp [hP], by simp [hP]⟩
      clear hP
      have q3 := cell_of_row hB2 3 _ rfl
      have qf : ∀ i, w'.frozen? ⟨w.heap.size, i, none⟩ = false := fun i => by unfold tbox at hB2; simp [World.frozen?, hB2]
      obtain ⟨ra, rc, hy8⟩ := hP2.1.form
      intro K hK
      simp only [fillA]
      go_simp
      have h2 := hK undef (w'.setCell ⟨w.heap.size, 3, none⟩ (ys 8)) ⟨hB1.setCell (Nat.le_refl _) _, _, _, hB2.set3 _⟩ ⟨_, _, hP2.set _ _, hB2.set3 _⟩ (fun j u hj h => h.set3 hj)
      simp [fillA, Act.put, hP1, hy8] at h2
      exact h2
  · intro ys w' hB hF
    have f10 : ∃ x3, tbox w' w.heap.size s _ x3 (.string (strOf s.inters)) := hF 10 (by decide)
    have f12 : ∃ x3 x4, rowP w.heap.size (accList s) x3 w' ∧ tbox w' w.heap.size s _ x3 x4 := hF 12 (by decide)
    clear hF
    obtain ⟨hB1, _⟩ := hB
    obtain ⟨ra, rc, hr, ht⟩ := tbox_fin f10 f12
    clear f10 f12
    simp only [fillA]
    obtain ⟨t0, t1, t2, t3, t4, t5, tf⟩ := cells6 ht
    obtain ⟨o0, of⟩ := cells1 (hB1.blk hS.om.blk)
    obtain ⟨oa, oc, rfl⟩ := row_form hS.om.row
    go_wp2_with fail
    have hgx := hB1.alloc (.cells (tcells (tokOf s) (.slice ra (accList s).length rc, .slice da s.data.length dc)).toArray 31)
    obtain ⟨a0, af⟩ := cells1 (hgx.blk hS.om.blk)
    have hb := heap_alloc_new w' (.cells (tcells (tokOf s) (.slice ra (accList s).length rc, .slice da s.data.length dc)).toArray 31)
    have hT := blk_lt ht
    have hol := blk_lt (hB1.blk hS.om.blk)
    go_region_law (refine step_pushO rfl _ _ _ rfl Try.underlying36 (hS.omD.gr (by (repeat (first | with_reducible (refine Gr.setCell ?_ ?hp _; case hp => (simp; try omega)) | with_reducible refine Gr.alloc ?_ _ | with_reducible refine Gr.drew ?_ | with_reducible refine Gr.drewN ?_ _ | with_reducible assumption | with_reducible exact Gr.refl _ | with_reducible refine Gr.trans ?_ (by assumption))))) (tokOf s) (.slice ra (accList s).length rc, .slice da s.data.length dc) w'.heap.size (by simp [Act.eval]) (by simp [Act.eval]) hb ⟨rfl, rfl⟩ hn ?_; intro g cap w3 hG hown hb1; obtain ⟨r0, rf⟩ := cells1 hb1)
    all_goals
      have hp3 := hS.blkD (hB1.trans (by (repeat (first | with_reducible (refine Gr.setCell ?_ ?hp _; case hp => (simp; try omega)) | with_reducible refine Gr.alloc ?_ _ | with_reducible refine Gr.drew ?_ | with_reducible refine Gr.drewN ?_ _ | with_reducible assumption | with_reducible exact Gr.refl _ | with_reducible refine Gr.trans ?_ (by assumption))))) hG
      go_wp2_with (go_at_call 20; refine (reset_walk p _ rfl _ hp3).mono ?_; rintro e w4 ⟨rfl, hh4, hu4, hs4⟩)
      go_end0
      obtain ⟨lv', h1, h2⟩ := hS.doneFin (hB1.trans (by (repeat (first | with_reducible (refine Gr.setCell ?_ ?hp _; case hp => (simp; try omega)) | with_reducible refine Gr.alloc ?_ _ | with_reducible refine Gr.drew ?_ | with_reducible refine Gr.drewN ?_ _ | with_reducible assumption | with_reducible exact Gr.refl _ | with_reducible refine Gr.trans ?_ (by assumption))))) (x3 := .slice ra (accList s).length rc) (hr.gr (by (repeat (first | with_reducible (refine Gr.setCell ?_ ?hp _; case hp => (simp; try omega)) | with_reducible refine Gr.alloc ?_ _ | with_reducible refine Gr.drew ?_ | with_reducible refine Gr.drewN ?_ _ | with_reducible assumption | with_reducible exact Gr.refl _ | with_reducible refine Gr.trans ?_ (by assumption))))) hG hown hh4 hu4
      exact ⟨rfl, lv', h1, by simpa [emit, hv, tokOf] using h2⟩
theorem done_SS (hok : s.ok) (hn : ts.length ≤ 100000) (h : SS lv w p s o ts) : Calls Try.prog 60 #[.pointer (some ⟨p, 0, none⟩), .pointer (some ⟨o, 0, none⟩)] w fun e w' => e = .returned (.tuple #[]) ∧ ∃ lv', Stp lv w lv' w' ∧ SS lv' w' p PS.init o (ts ++ emit s) := by
  cases hv : s.void with
  | true => exact done_void hv h
  | false => exact done_full hv hok hn h
end Go.Proofs.Ytgbmjlajheeciaa
