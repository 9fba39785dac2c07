/-
  opened, walked.
  slices.Clone of a row of ints or of bytes, and slices.Clip, walked.
  slices.Clip and the accumulator's method List, walked.
  What a parser can be, it is behind every byte.
  The parser's method done, walked.
  The parser's method escaped, walked.
-/
import Derived.Test.YtnnhaenmoifplaaDoorZPaT
namespace Go.Proofs.YtnnhaenmoifplaaDoor
set_option linter.unusedSimpArgs false
set_option linter.unusedVariables false
set_option linter.unusedSectionVars false
section
open Go.RowKit
variable [Bs]

set_option maxRecDepth 100000 in
set_option maxHeartbeats 1000000 in
theorem opened_walk (c : Int) (w : World) : Calls Tryd.prog 43 #[.int .u8 c] w fun e w' => e = .returned (.tuple #[.int .i64 (opKind c), .int .i64 (opAt c)]) ∧ w = w' := by
  go_enter Tryd.func43, Tryd.ntmps43
  go_wp2_with fail
  all_goals go_ret2
  all_goals (simp only [beq_iff_eq, beq_eq_false_iff_ne, ne_eq] at *; (try subst c); simp [*, opKind, opAt])
end
section
open Go.RowKit
variable [Bs]

set_option maxHeartbeats 2000000 in
set_option maxRecDepth 100000 in
theorem clone_ints (B n : Nat) (v : Value) (l : List Int) (w : World) (h : w.ownsRow B 3 1 v n (icells l)) (hn : n ≤ 100000) :
    Calls Tryd.prog 53 #[v] w fun e w' => ∃ v', e = .returned v' ∧ w'.ownsRow w.heap.size 3 1 v' n (icells l) ∧ Gr w w' := by
  obtain ⟨i0, hi0, hz0, hz1, hz2⟩ := info_parts int_info
  have q22 : ∀ (w : World) (a : Option Addr) (n c n' c' : Nat), (binOp .eql 31 (.slice a n c) (.slice none n' c')).run Tryd.prog w = .ok (.bool a.isNone) w := fun w a n c n' c' => Lib.run_eql_slice_nil w _ _ a n c n' c' Tryd.underlying31
  rcases h.2 with ⟨rfl, rfl⟩ | ⟨g, cap, cur, rfl, hg, hh, hnc, hcm, hcs, htk⟩
  · go_enter Tryd.func53, Tryd.ntmps53
    go_wp2_with fail
    go_ret
    have : l = [] := by have := h.1; simp [icells] at this; exact this
    subst this
    exact ⟨_, rfl, World.ownsRow_nil _ _ _ _, .refl _⟩
  · have hcells : ∀ j u, (icells l)[j]? = some u → w.cell? ⟨g, j, none⟩ = some u := by
      intro j u hj
      refine cell_of_row hh j u ?_
      rw [← htk] at hj
      have hlt := (List.getElem?_eq_some_iff.1 hj).1
      rw [List.getElem?_take] at hj
      split at hj
      · simpa using hj
      · cases hj
    have hgl := blk_lt hh
    go_enter Tryd.func53, Tryd.ntmps53
    go_wp2_with (at_builtin; refine wpList_append_own _ rfl _ _ _ rfl w.heap.size 3 i0 (.int .i64 0) 1 8 Tryd.underlying31 hi0 hz0 hz1 hz2 rfl (by decide) _ _ _ rfl (World.ownsRow_made w #[] 0 (Nat.le_refl _) (Nat.zero_le _) rfl) ⟨g, 0, none⟩ n cap (icells l) rfl ?qc1 ?qc2 ?qc3 ?qc4 ?qc5 ?qc6 ?_)
    case qc1 => exact h.1
    case qc2 =>
      intro j u hj
      have e : (⟨g, 0, none⟩ : Addr).add j = ⟨g, j, none⟩ := by rcases j with _ | j <;> simp [Addr.add]
      rw [e]
      exact Lib.cell?_alloc_some _ (hcells j u hj)
    case qc3 => intro u hu; obtain ⟨x, _, rfl⟩ := List.mem_map.1 hu; rfl
    case qc4 => unfold maxLen; omega
    case qc5 => omega
    case qc6 => simp
    intro v' w1 hown hgrow hnil
    go_wp2
    go_ret
    exact ⟨v', rfl, by simpa using hown, ((Below.refl _ w).alloc (Nat.le_refl _) _).grown hgrow (by simp) (by intro k hk; simp [Value.ownBlock] at hk; omega)⟩
end
section
open Go.RowKit
variable [Bs]

variable {lv : List Nat} {w : World} {p o : Nat} {s : PS} {ts : List Tok}

set_option maxHeartbeats 1000000 in
theorem clip_ints (B n : Nat) (v : Value) (xs : List Value) (w : World) (h : w.ownsRow B 3 1 v n xs) :
    Calls Tryd.prog 54 #[v] w fun e w' => ∃ v', e = .returned v' ∧ HasRow w 3 v' n xs ∧ v'.ownBlock = v.ownBlock ∧ w = w' := by
  rcases h.2 with ⟨rfl, rfl⟩ | ⟨g, cap, cur, rfl, hg, hh, hnc, hcm, hcs, htk⟩
  · go_enter Tryd.func54, Tryd.ntmps54
    go_wp2_with fail
    go_ret
    exact ⟨_, rfl, .of_own h, rfl, rfl⟩
  · go_enter Tryd.func54, Tryd.ntmps54
    go_wp2_with fail
    go_ret
    refine ⟨_, rfl, ⟨by simpa using h.1, .inr ⟨g, n, cur, rfl, ⟨_, hh⟩, Nat.le_refl _, by omega, by simpa using htk⟩⟩, rfl, rfl⟩
set_option maxRecDepth 100000 in
set_option maxHeartbeats 1000000 in
theorem list_walk (hok : s.ok) (h : SS lv w p s o ts) : Calls Tryd.prog 42 #[.pointer (some ⟨p, 8, none⟩)] w fun e w' => ∃ v, e = .returned v ∧ HasRow w' 3 v (accList s).length (icells (accList s)) ∧ (∀ k, v.ownBlock = some k → w.heap.size ≤ k) ∧ Gr w w' := by
  obtain ⟨iv, dv, av, ov, qs, hS⟩ := h
  obtain ⟨k0, k1, k2, k3, k4, k5, k6, k7, k8, k9, k10, k11, k12, kf⟩ := cells13 hS.pm.blk
  have hn : s.done.length ≤ 100000 := by have := hok.done; omega
  go_enter Tryd.func42, Tryd.ntmps42
  go_wp2_with (first
    | (go_at_call 53; refine (clone_ints Bs.b s.done.length av s.done w hS.pm.done hn).mono ?_; rintro e w1 ⟨v1, rfl, hr1, hb1⟩; obtain ⟨a1, c1, rfl⟩ := row_form hr1; obtain ⟨q0, q1, q2, q3, q4, q5, q6, q7, q8, q9, q10, q11, q12, qf⟩ := cells13 (hb1.blk hS.pm.blk))
    | (at_builtin; refine wpList_push1 rfl _ _ _ rfl w.heap.size 3 (.int .i64 0) 8 Tryd.underlying31 int_info rfl (by omega) _ _ _ _ (hr1.alloc _) _ rfl rfl (cell_alloc1 _ _ _) rfl (by omega) (by have := hb1.size; simp; omega) ?_; intro g cap w2 hG hown)
    | (go_at_call 54; refine (clip_ints _ _ _ _ _ (by assumption)).mono ?_; rintro e w3 ⟨v3, rfl, hr3, hk3, rfl⟩))
  all_goals go_ret
  · have e : accList s = s.done ++ [s.now] := by simp only [accList]; rw [if_pos ⟨by assumption, by omega⟩]
    rw [e]
    refine ⟨v3, rfl, by simpa [icells] using hr3, fun k hk => ?_, hG.gr (hb1.alloc _) fun k hk => ownsRow_base hr1 hk⟩
    rw [hk3] at hk
    exact ownsRow_base hown hk
  all_goals
    have e : accList s = s.done := by
      simp only [accList]; rw [if_neg]; rintro ⟨h1, h2⟩; first | omega | simp_all
    rw [e]
    refine ⟨v3, rfl, hr3, fun k hk => ?_, hb1⟩
    rw [hk3] at hk
    exact ownsRow_base hr1 hk
end
end Go.Proofs.YtnnhaenmoifplaaDoor

namespace Go.Proofs.YtnnhaenmoifplaaDoor
set_option linter.unusedSimpArgs false
set_option linter.unusedVariables false
open Go.RowKit

theorem ok_init : PS.init.ok := by constructor <;> simp [PS.init]
theorem ok_begin (a k : Int) (ha : 0 ≤ a ∧ a ≤ 4) (hk : 0 ≤ k ∧ k ≤ 9) : (PS.begin_ a k).ok := by constructor <;> simp [PS.begin_] <;> omega
theorem ok_inter {s : PS} (h : s.ok) (c : Int) : (interM s c).ok := by
  refine ⟨h.phase, h.kind, h.code, h.mark, ?_, h.data, h.done, h.now⟩
  have := h.inters
  simp only [interM]
  split
  · exact this
  · rename_i hv
    simp at hv
    simp; omega
theorem ok_acc {s : PS} (h : s.ok) (c : Int) (hc : isAcc c = true) : (accByte s c).ok := by
  have := h.done
  have hn := h.now
  simp only [isAcc, Bool.or_eq_true, decide_eq_true_eq, Bool.and_eq_true] at hc
  unfold accByte
  split
  · refine ⟨h.phase, h.kind, h.code, h.mark, h.inters, h.data, ?_, by simp⟩
    dsimp only
    split
    · simp; omega
    · exact this
  · exact ⟨h.phase, h.kind, h.code, h.mark, h.inters, h.data, this, by simp; omega⟩
theorem opKind_le (c : Int) : 0 ≤ opKind c ∧ opKind c ≤ 9 := by
  simp only [opKind]
  repeat' split
  all_goals omega
theorem opAt_le (c : Int) : 0 ≤ opAt c ∧ opAt c ≤ 4 := by
  simp only [opAt]
  repeat' split
  all_goals omega
theorem ok_escaped {s : PS} (h : s.ok) (c : Int) : (escapedM s c).1.ok := by
  simp only [escapedM]
  split
  · exact ok_inter h c
  split
  · exact ok_init
  split
  · exact ok_begin _ _ (opAt_le c) (opKind_le c)
  split <;> exact ok_init
theorem ok_first {s : PS} (h : s.ok) (b : Bool) : ({ s with first := b } : PS).ok := ⟨h.phase, h.kind, h.code, h.mark, h.inters, h.data, h.done, h.now⟩
theorem ok_void {s : PS} (h : s.ok) (b : Bool) : ({ s with void := b } : PS).ok := ⟨h.phase, h.kind, h.code, h.mark, h.inters, h.data, h.done, h.now⟩
theorem ok_code {s : PS} (h : s.ok) (c : Int) (hc : 0 ≤ c ∧ c < 256) : ({ s with code := c } : PS).ok := ⟨h.phase, h.kind, hc, h.mark, h.inters, h.data, h.done, h.now⟩
theorem ok_mark {s : PS} (h : s.ok) (c : Int) (hc : 0 ≤ c ∧ c < 256) : ({ s with mark := c } : PS).ok := ⟨h.phase, h.kind, h.code, hc, h.inters, h.data, h.done, h.now⟩
theorem ok_phase {s : PS} (h : s.ok) (c : Int) (hc : 0 ≤ c ∧ c ≤ 4) : ({ s with phase := c } : PS).ok := ⟨hc, h.kind, h.code, h.mark, h.inters, h.data, h.done, h.now⟩
theorem ok_header {s : PS} (h : s.ok) (c : Int) (hc : 0 ≤ c ∧ c < 256) : (headerM s c).1.ok := by
  have h1 := ok_first h false
  simp only [headerM]
  split
  · exact ok_inter h1 c
  split
  · split
    · exact ok_init
    · exact ok_phase (ok_code h1 c hc) 3 (by omega)
  split
  · exact ok_mark h1 c hc
  split
  · exact ok_void h1 true
  · rename_i hn
    refine ok_acc h1 c ?_
    cases hb : isAcc c with
    | true => rfl
    | false => exact absurd (.inr (.inr hb)) hn
theorem ok_text {s : PS} (h : s.ok) (c : Int) : (textM s c).ok := by
  have := h.data
  simp only [textM]
  split
  · exact ⟨h.phase, h.kind, h.code, h.mark, h.inters, by simp, h.done, h.now⟩
  · rename_i hn
    refine ⟨h.phase, h.kind, h.code, h.mark, h.inters, ?_, h.done, h.now⟩
    simp at hn ⊢; omega
theorem ok_step {s : PS} (h : s.ok) (c : Int) (hc : 0 ≤ c ∧ c < 256) : (stepM s c).1.ok := by
  simp only [stepM]
  split
  · split
    · exact h
    · exact ok_escaped h _
  split
  · split
    · exact h
    · exact ok_header h _ (by omega)
  split
  · exact ok_text h c
  · exact h
theorem ok_take1 {s : PS} (h : s.ok) (c : Int) (hc : 0 ≤ c ∧ c < 256) : (takeM1 s c).1.ok := by
  simp only [takeM1]
  split
  · split
    · exact ok_phase h 4 (by omega)
    · exact ok_begin _ _ (by omega) (by omega)
  split
  · exact ok_init
  split
  · exact ok_init
  split
  · exact ok_step h c hc
  split
  · exact h
  split
  · exact ok_init
  split
  · exact ok_step h c hc
  · exact h
theorem ok_take {s : PS} (h : s.ok) (c : Int) (hc : 0 ≤ c ∧ c < 256) : (takeM s c).1.ok := by
  simp only [takeM]
  split
  · split
    · exact ok_init
    · exact ok_take1 (ok_begin _ _ (by omega) (by omega)) c hc
  · exact ok_take1 h c hc
/-- Of a byte comes one token at most. -/
theorem emit_le (s : PS) : (emit s).length ≤ 1 := by unfold emit; split <;> simp
end Go.Proofs.YtnnhaenmoifplaaDoor

namespace Go.Proofs.YtnnhaenmoifplaaDoor
set_option linter.unusedSimpArgs false
set_option linter.unusedVariables false
set_option linter.unusedSectionVars false
open Go.RowKit
variable [Bs]

variable {lv : List Nat} {w : World} {p o : Nat} {s : PS} {ts : List Tok}

set_option maxRecDepth 100000 in
set_option maxHeartbeats 1000000 in
theorem done_void (hv : s.void = true) (h : SS lv w p s o ts) : Calls Tryd.prog 32 #[.pointer (some ⟨p, 0, none⟩), .pointer (some ⟨o, 0, none⟩)] w fun e w' => e = .returned (.tuple #[]) ∧ ∃ lv', Stp lv w lv' w' ∧ SS lv' w' p PS.init o (ts ++ emit s) := by
  have hh := h
  obtain ⟨iv, dv, av, ov, qs, hS⟩ := h
  obtain ⟨k0, k1, k2, k3, k4, k5, k6, k7, k8, k9, k10, k11, k12, kf⟩ := cells13 hS.pm.blk
  rw [hv] at k12
  go_enter Tryd.func32, Tryd.ntmps32
  go_wp2_with (go_at_call 31; refine (reset_SS hh).mono ?_; rintro e w1 ⟨rfl, hs1, hS1⟩)
  go_end0
  exact ⟨rfl, lv, hs1, by simpa [emit, hv] using hS1⟩

/-- A new token's box: the cells of numbers and intermediates as they are filled. -/
def tbox (w : World) (T : Nat) (s : PS) (dv x3 x4 : Value) : Prop := w.heap[T]? = some (.cells #[.int .i64 s.kind, .int .u8 s.code, .int .u8 s.mark, x3, x4, dv] 34 (0, 0))
def rowP (T : Nat) (l : List Int) (v : Value) (w : World) : Prop := HasRow w 3 v l.length (icells l) ∧ ∀ k, v.ownBlock = some k → T < k
theorem rowP.set {T : Nat} {l : List Int} {v : Value} {w : World} (h : rowP T l v w) (i : Nat) (u : Value) : rowP T l v (w.setCell ⟨T, i, none⟩ u) :=
  ⟨h.1.same fun k hk => by rw [Below.heap_setCell _ _ _ _ (by have := h.2 k hk; simp; omega)], h.2⟩
theorem rowP.gr {T : Nat} {l : List Int} {v : Value} {w w' : World} (h : rowP T l v w) (hg : Gr w w') : rowP T l v w' := ⟨h.1.gr hg, h.2⟩
theorem tbox.set3 {w : World} {T : Nat} {s : PS} {dv x3 x4 : Value} (h : tbox w T s dv x3 x4) (u : Value) : tbox (w.setCell ⟨T, 3, none⟩ u) T s dv u x4 := by
  unfold tbox; rw [blk_set h 3 u]; rfl
theorem tbox.set4 {w : World} {T : Nat} {s : PS} {dv x3 x4 : Value} (h : tbox w T s dv x3 x4) (u : Value) : tbox (w.setCell ⟨T, 4, none⟩ u) T s dv x3 u := by
  unfold tbox; rw [blk_set h 4 u]; rfl
def BaseD (w : World) (s : PS) (dv : Value) (w' : World) : Prop := Gr w w' ∧ ∃ x3 x4, tbox w' w.heap.size s dv x3 x4
def FactD (w : World) (p : Nat) (s : PS) (iv dv : Value) : Nat → Value → World → Prop
  | 0, v, _ => v = .pointer (some ⟨p, 0, none⟩)
  | 1, v, _ => v = .pointer (some ⟨p, 0, none⟩)
  | 2, v, _ => v = .pointer (some ⟨p, 7, none⟩)
  | 3, v, _ => v = iv
  | 4, v, _ => v = .string (strOf s.inters)
  | 5, v, _ => v = .pointer (some ⟨p, 0, none⟩)
  | 6, v, _ => v = .pointer (some ⟨p, 0, none⟩)
  | 7, v, _ => v = .pointer (some ⟨p, 8, none⟩)
  | 8, v, w' => rowP w.heap.size (accList s) v w'
  | 9, v, _ => v = .pointer (some ⟨w.heap.size, 4, none⟩)
  | 10, _, w' => ∃ x3, tbox w' w.heap.size s dv x3 (.string (strOf s.inters))
  | 11, v, _ => v = .pointer (some ⟨w.heap.size, 3, none⟩)
  | 12, _, w' => ∃ x3 x4, rowP w.heap.size (accList s) x3 w' ∧ tbox w' w.heap.size s dv x3 x4
  | _, _, _ => True

theorem FactD.gr {w w1 w2 : World} {p : Nat} {s : PS} {iv dv v : Value} {j : Nat} (hg : Gr w1 w2) (h : FactD w p s iv dv j v w1) : FactD w p s iv dv j v w2 := by
  unfold FactD at h ⊢
  split <;> first | exact h | skip
  · exact rowP.gr h hg
  · obtain ⟨x3, h⟩ := h; exact ⟨x3, hg.blk h⟩
  · obtain ⟨x3, x4, h1, h2⟩ := h; exact ⟨x3, x4, h1.gr hg, hg.blk h2⟩
  · trivial
theorem FactD.set4 {w w1 : World} {p : Nat} {s : PS} {iv dv v : Value} {j : Nat} (h : FactD w p s iv dv j v w1) : FactD w p s iv dv j v (w1.setCell ⟨w.heap.size, 4, none⟩ (.string (strOf s.inters))) := by
  unfold FactD at h ⊢
  split <;> first | exact h | skip
  · exact rowP.set h _ _
  · obtain ⟨x3, h⟩ := h; exact ⟨x3, h.set4 _⟩
  · obtain ⟨x3, x4, h1, h2⟩ := h; exact ⟨x3, _, h1.set _ _, h2.set4 _⟩
  · trivial
theorem FactD.set3 {w w1 : World} {p : Nat} {s : PS} {iv dv v u : Value} {j : Nat} (hj : j ≠ 12) (h : FactD w p s iv dv j v w1) : FactD w p s iv dv j v (w1.setCell ⟨w.heap.size, 3, none⟩ u) := by
  unfold FactD at h ⊢
  split <;> first | exact h | skip
  · exact rowP.set h _ _
  · obtain ⟨x3, h⟩ := h; exact ⟨u, h.set3 _⟩
  · exact absurd rfl hj
  · trivial

theorem TMem.sub {lv lv' : List Nat} {w : World} {t : Tok} {pv dv : Value} (h : TMem lv w t pv dv) (hs : ∀ k ∈ lv', k ∈ lv) : TMem lv' w t pv dv :=
  ⟨h.params, h.data, fun k hk x => h.pOut k hk (hs k x), fun k hk x => h.dOut k hk (hs k x), h.pNew, h.dNew⟩
theorem OMem.sub {lv lv' : List Nat} {w : World} {o : Nat} {ts : List Tok} {ov : Value} {qs : List (Value × Value)} (h : OMem lv w o ts ov qs) (hs : ∀ k ∈ lv', k ∈ lv) (ho : o ∈ lv') (hr : ∀ k, ov.ownBlock = some k → k ∈ lv') : OMem lv' w o ts ov qs :=
  ⟨h.blk, h.row, h.len, fun i t q ht hq => (h.toks i t q ht hq).sub hs, ho, hr, h.bs⟩
theorem OMem.ro {lv : List Nat} {w : World} {o : Nat} {ts : List Tok} {ov : Value} {qs : List (Value × Value)} (h : OMem lv w o ts ov qs) : ov.ownBlock ≠ some o := row_ne h.row h.blk (by decide)

/-- What a new token leaves of the tokens. -/
theorem OMem.push {lv : List Nat} {w w1 : World} {o g : Nat} {ts : List Tok} {ov V : Value} {qs : List (Value × Value)} {t : Tok} {q : Value × Value} (h : OMem lv w o ts ov qs) (ht : TMem lv w t q.1 q.2) (hg : Grew w w1 ov V g)
    (hV : w1.ownsRow Bs.b 34 6 V (ts.length + 1) (tsCells ts qs ++ tcells t q)) :
    OMem (g :: lv) (w1.setCell ⟨o, 0, none⟩ V) o (ts ++ [t]) V (qs ++ [q]) ∧ Stp lv w (g :: lv) (w1.setCell ⟨o, 0, none⟩ V) ∧ Upd (o :: ov.ownBlock.toList) w (w1.setCell ⟨o, 0, none⟩ V) := by
  obtain ⟨hs, hu⟩ := hg.upd h.ro (blk_lt h.blk) 0 V h.rIn h.oIn
  have go : g ≠ o := (hg.ne (blk_lt h.blk) h.ro).symm
  have hgl : ∀ k, k < w.heap.size → k ∈ g :: lv → k ∈ lv := by
    intro k hk hl
    rcases List.mem_cons.1 hl with rfl | hl
    · rcases hg.at_ with e | e
      · exact h.rIn _ e
      · omega
    · exact hl
  have hKl : ∀ k, k < w.heap.size → k ∈ o :: ov.ownBlock.toList → k ∈ lv := by
    intro k _ hk
    simp at hk
    rcases hk with rfl | hk
    · exact h.oIn
    · exact h.rIn k hk
  refine ⟨⟨blk_set ((hg.new (blk_lt h.blk) h.ro).trans h.blk) 0 V, ?_, ?_, ?_, by simp [h.oIn], ?_, Nat.le_trans h.bs hu.size⟩, hs, hu⟩
  · rw [tsCells_append _ _ _ _ h.len, show (ts ++ [t]).length = ts.length + 1 by simp]
    exact ownsRow_same hV fun k hk => by
      rw [hg.own] at hk; injection hk with hk; subst hk
      rw [Below.heap_setCell _ _ _ _ go]
  · simp [h.len]
  · intro i t' q' hi hq
    rcases Nat.lt_or_ge i ts.length with hlt | hge
    · rw [List.getElem?_append_left hlt] at hi
      rw [List.getElem?_append_left (by rw [h.len]; exact hlt)] at hq
      exact (h.toks i t' q' hi hq).upd hu hKl hgl
    · rw [List.getElem?_append_right hge] at hi
      rw [List.getElem?_append_right (by rw [h.len]; exact hge)] at hq
      have hi0 : i - ts.length = 0 := by
        rcases hx : i - ts.length with _ | n
        · rfl
        · rw [hx] at hi; simp at hi
      rw [hi0] at hi
      rw [h.len, hi0] at hq
      simp at hi hq
      subst hi; subst hq
      exact ht.upd hu hKl hgl
  · intro k hk; rw [hg.own] at hk; injection hk with hk; simp [hk]

theorem tbox_fin {w w' : World} {s : PS} {dv : Value} (h1 : ∃ x3, tbox w' w.heap.size s dv x3 (.string (strOf s.inters))) (h2 : ∃ x3 x4, rowP w.heap.size (accList s) x3 w' ∧ tbox w' w.heap.size s dv x3 x4) :
    ∃ ra rc, rowP w.heap.size (accList s) (.slice ra (accList s).length rc) w' ∧ tbox w' w.heap.size s dv (.slice ra (accList s).length rc) (.string (strOf s.inters)) := by
  obtain ⟨y3, h1⟩ := h1
  obtain ⟨x3, x4, hr, h2⟩ := h2
  obtain ⟨ra, rc, rfl⟩ := hr.1.form
  refine ⟨ra, rc, hr, ?_⟩
  unfold tbox at h1 h2 ⊢
  rw [h2] at h1
  simp at h1
  rw [h2, h1.2]
/-- The token that a parser has come to. -/
def tokOf (s : PS) : Tok := ⟨s.kind, s.code, s.mark, accList s, s.inters, s.data⟩
/-- What may change, but not the bytes of the token. -/
def lvD (lv : List Nat) (w : World) (dv : Value) : List Nat := lv.filter fun k => decide (k < w.heap.size) && decide (dv.ownBlock ≠ some k)
theorem mem_lvD {lv : List Nat} {w : World} {dv : Value} {k : Nat} : k ∈ lvD lv w dv ↔ k ∈ lv ∧ k < w.heap.size ∧ dv.ownBlock ≠ some k := by simp [lvD, List.mem_filter]
theorem St.omD {lv : List Nat} {w : World} {p o : Nat} {s : PS} {iv dv av ov : Value} {ts : List Tok} {qs : List (Value × Value)} (h : St lv w p s iv dv av o ts ov qs) : OMem (lvD lv w dv) w o ts ov qs :=
  h.om.sub (fun k hk => (mem_lvD.1 hk).1) (mem_lvD.2 ⟨h.om.oIn, blk_lt h.om.blk, h.do_⟩) fun k hk => mem_lvD.2 ⟨h.om.rIn k hk, ownsRow_blk h.om.row hk, row_type h.om.row h.pm.data (by decide) hk⟩
theorem OMem.gr {lv : List Nat} {w w' : World} {o : Nat} {ts : List Tok} {ov : Value} {qs : List (Value × Value)} (h : OMem lv w o ts ov qs) (hg : Gr w w') : OMem lv w' o ts ov qs :=
  h.upd (Upd.of_gr (lv := []) hg) (by simp) (by simp) (by simp) (fun _ _ h => h) h.oIn h.rIn
theorem St.tokD {lv : List Nat} {w w' : World} {p o : Nat} {s : PS} {iv dv av ov x3 : Value} {ts : List Tok} {qs : List (Value × Value)} (h : St lv w p s iv dv av o ts ov qs) (hg : Gr w w') (hr : rowP w.heap.size (accList s) x3 w') : TMem (lvD lv w dv) w' (tokOf s) x3 dv :=
  ⟨hr.1, (HasRow.of_own h.pm.data).gr hg, fun k hk hm => by have := hr.2 k hk; have := (mem_lvD.1 hm).2.1; omega, fun k hk hm => (mem_lvD.1 hm).2.2 hk, fun k hk => by have := hr.2 k hk; have := h.pm.bs; omega, fun k hk => ownsRow_base h.pm.data hk⟩
theorem St.blkD {lv : List Nat} {w w2 w3 : World} {p o g : Nat} {s : PS} {iv dv av ov V : Value} {ts : List Tok} {qs : List (Value × Value)} (h : St lv w p s iv dv av o ts ov qs) (hg2 : Gr w w2) (hG : Grew w2 w3 ov V g) :
    (w3.setCell ⟨o, 0, none⟩ V).heap[p]? = some (.cells (pcells s iv dv av) 38 (0, 0)) :=
  blk_far ((hG.new (Nat.lt_of_lt_of_le (blk_lt h.pm.blk) hg2.size) h.rp).trans (hg2.blk h.pm.blk)) h.po _
/-- A parser that is reset, its tokens one more. -/
theorem St.doneFin {lv : List Nat} {w w2 w3 w4 : World} {p o g : Nat} {s : PS} {iv dv av ov V x3 : Value} {ts : List Tok} {qs : List (Value × Value)} (h : St lv w p s iv dv av o ts ov qs) (hg2 : Gr w w2)
    (hr : rowP w.heap.size (accList s) x3 w2) (hG : Grew w2 w3 ov V g) (hown : w3.ownsRow Bs.b 34 6 V (ts.length + 1) (tsCells ts qs ++ tcells (tokOf s) (x3, dv)))
    (hp4 : w4.heap[p]? = some (.cells (pcells PS.init (.slice none 0 0) (.slice none 0 0) (.slice none 0 0)) 38 (0, 0))) (hu : Upd [p] (w3.setCell ⟨o, 0, none⟩ V) w4) :
    ∃ lv', Stp lv w lv' w4 ∧ SS lv' w4 p PS.init o (ts ++ [tokOf s]) := by
  obtain ⟨hO, hs, hu3⟩ := (h.omD.gr hg2).push (q := (x3, dv)) (h.tokD hg2 hr) hG hown
  have hp2 : p < w2.heap.size := Nat.lt_of_lt_of_le (blk_lt h.pm.blk) hg2.size
  have hpl : p ∈ lvD lv w dv := mem_lvD.2 ⟨h.pm.pIn, blk_lt h.pm.blk, h.dp⟩
  have hp3 : p < (w3.setCell ⟨o, 0, none⟩ V).heap.size := Nat.lt_of_lt_of_le hp2 hu3.size
  have hgp : g ≠ p := by
    rcases hG.at_ with e | e
    · rintro rfl; exact h.rp e
    · omega
  have hO4 : OMem (g :: lvD lv w dv) w4 o (ts ++ [tokOf s]) V (qs ++ [(x3, dv)]) :=
    hO.upd hu (by simp; exact h.op) (fun k hk => by rw [hG.own] at hk; injection hk with hk; subst hk; simp; exact hgp) (fun k _ hk => by simp at hk; subst hk; simp [hpl]) (fun _ _ h => h) hO.oIn hO.rIn
  refine ⟨g :: lvD lv w dv, ?_, _, _, _, _, _, ⟨⟨hp4, World.ownsRow_nil _ _ _ _, World.ownsRow_nil _ _ _ _, World.ownsRow_nil _ _ _ _, by simp [hpl], by simp [Value.ownBlock], by simp [Value.ownBlock], by simp [Value.ownBlock], by simp [Value.ownBlock], hO4.bs⟩, hO4⟩⟩
  have h1 : Stp lv w (lvD lv w dv) w2 := ⟨.of_gr hg2, fun k hk => .inl (mem_lvD.1 hk).1⟩
  exact (h1.trans hs).trans (.one (by simp [hpl]) hu)

theorem step_pushO {lv : List Nat} {w : World} {o : Nat} {ts : List Tok} {ov : Value} {qs : List (Value × Value)} {ops : Array Oper} {u : Oper} {a : Act} {K : Act → World → Prop} {Q : Exit → Act → World → Prop} {E : Prop} (hgd : u.guard = none) (x y : Operand) (t : TypeId)
    (hu : u.op = .call { callee := .builtin .append, args := #[x, y], argTypes := #[t, t] }) (ht : Tryd.prog.underlying t = some (.slice 34)) (h : OMem lv w o ts ov qs) (tk : Tok) (q : Value × Value) (b : Nat)
    (hx : a.eval x = ov) (hy : a.eval y = .slice (some ⟨b, 0, none⟩) 1 1) (hb : w.heap[b]? = some (.cells (tcells tk q).toArray 34 (0, 0))) (hq : q.1.oneCell' = true ∧ q.2.oneCell' = true) (hn : ts.length ≤ 100000)
    (H : ∀ g cap w1, Grew w w1 ov (.slice (some ⟨g, 0, none⟩) (ts.length + 1) cap) g → w1.ownsRow Bs.b 34 6 (.slice (some ⟨g, 0, none⟩) (ts.length + 1) cap) (ts.length + 1) (tsCells ts qs ++ tcells tk q) →
      w1.heap[o]? = some (.cells #[ov] 45 (0, 0)) → K (a.put u.dst (.slice (some ⟨g, 0, none⟩) (ts.length + 1) cap)) w1) : if Region.wanted u (yielded ops a.tmps) = true then Oper.wp Tryd.prog u a w K Q else E := by
  refine step_pushN hgd x y t hu Bs.b 34 _ 6 80 ht token_info rfl (by omega) (by omega) _ _ _ (tcells tk q) h.row b hx hy hb rfl ?_ (by omega) h.bs ?_
  · intro v hv
    simp [tcells] at hv
    rcases hv with rfl | rfl | rfl | rfl | rfl | rfl
    all_goals first | rfl | exact hq.1 | exact hq.2
  · intro g cap w1 hG hown
    exact H g cap w1 hG hown ((hG.new (blk_lt h.blk) h.ro).trans h.blk)

set_option maxRecDepth 100000 in
set_option maxHeartbeats 1000000 in
theorem done_full (hv : s.void = false) (hok : s.ok) (hn : ts.length ≤ 100000) (h : SS lv w p s o ts) : Calls Tryd.prog 32 #[.pointer (some ⟨p, 0, none⟩), .pointer (some ⟨o, 0, none⟩)] w fun e w' => e = .returned (.tuple #[]) ∧ ∃ lv', Stp lv w lv' w' ∧ SS lv' w' p PS.init o (ts ++ emit s) := by
  have hh := h
  obtain ⟨iv, dv, av, ov, qs, hS⟩ := h
  obtain ⟨k0, k1, k2, k3, k4, k5, k6, k7, k8, k9, k10, k11, k12, kf⟩ := cells13 hS.pm.blk
  obtain ⟨ia, ic, rfl⟩ := row_form hS.pm.inters
  obtain ⟨da, dc, rfl⟩ := row_form hS.pm.data
  rw [hv] at k12
  go_enter Tryd.func32, Tryd.ntmps32
  go_wp2_with fail
  refine wp_region_facts (FactD w p s (.slice ia s.inters.length ic) (.slice da s.data.length dc)) (BaseD w s (.slice da s.data.length dc)) (by kernel_rfl) (by kernel_rfl) (by kernel_rfl) ?_ ?_ ?_
  · exact ⟨((Gr.refl w).alloc _).drew, _, _, heap_alloc_new w _⟩
  · refine Steps.cons1 1 rfl rfl ?_ (Steps.cons1 2 rfl rfl ?_ (Steps.cons1 3 rfl rfl ?_ (Steps.cons1 4 rfl rfl ?_ (Steps.cons1 5 rfl rfl ?_ (Steps.cons1 6 rfl rfl ?_ (Steps.cons1 7 rfl rfl ?_ (Steps.cons1 8 rfl rfl ?_ (Steps.cons1 9 rfl rfl ?_ (Steps.cons1 10 rfl rfl ?_ (Steps.cons1 11 rfl rfl ?_ (Steps.cons1 12 rfl rfl ?_ (Steps.cons1 13 rfl rfl ?_ (Steps.nil)))))))))))))
    · (intro ys w' hB hP K hK; simp only [Preds, Region.binds, FactD, forall_const, and_true, true_and] at hP; simp only [fillA]; go_simp; (have h2 := fun v => hK v w' hB); simp only [FactD, forall_eq] at h2; (have h2 := h2 (fun _ _ _ h => h)); simp [fillA, Act.put, hP] at h2; exact h2)
    · (intro ys w' hB hP K hK; simp only [Preds, Region.binds, FactD, forall_const, and_true, true_and] at hP; simp only [fillA]; go_simp; (have h2 := fun v => hK v w' hB); simp only [FactD, forall_eq] at h2; (have h2 := h2 (fun _ _ _ h => h)); simp [fillA, Act.put, hP] at h2; exact h2)
    · (intro ys w' hB hP K hK; simp only [Preds, Region.binds, FactD, forall_const, and_true, true_and] at hP; simp only [fillA]; go_simp; (have h2 := fun v => hK v w' hB); simp only [FactD, forall_eq] at h2; (have h2 := h2 (fun _ _ _ h => h)); simp [fillA, Act.put, hP] at h2; exact h2)
    · (intro ys w' hB hP; simp only [Preds, Region.binds, FactD, forall_const, and_true, true_and] at hP)
      have hg : Gr w w' := hB.1
      have q7 := cell_of_row (hg.blk hS.pm.blk) 7 _ rfl
      intro K hK
      simp only [fillA]
      go_simp
      have h2 := fun v => hK v w' hB
      simp only [FactD, forall_eq] at h2
      have h2 := h2 (fun _ _ _ h => h)
      simp [fillA, Act.put, hP] at h2
      exact h2
    · (intro ys w' hB hP; simp only [Preds, Region.binds, FactD, forall_const, and_true, true_and] at hP)
      have hc := conv_row ((HasRow.of_own hS.pm.inters).gr hB.1)
      intro K hK
      simp only [fillA]
      go_simp
      have h2 := fun v => hK v w' hB
      simp only [FactD, forall_eq] at h2
      have h2 := h2 (fun _ _ _ h => h)
      simp [fillA, Act.put, hP] at h2
      exact h2
    · (intro ys w' hB hP K hK; simp only [Preds, Region.binds, FactD, forall_const, and_true, true_and] at hP; simp only [fillA]; go_simp; (have h2 := fun v => hK v w' hB); simp only [FactD, forall_eq] at h2; (have h2 := h2 (fun _ _ _ h => h)); simp [fillA, Act.put, hP] at h2; exact h2)
    · (intro ys w' hB hP K hK; simp only [Preds, Region.binds, FactD, forall_const, and_true, true_and] at hP; simp only [fillA]; go_simp; (have h2 := fun v => hK v w' hB); simp only [FactD, forall_eq] at h2; (have h2 := h2 (fun _ _ _ h => h)); simp [fillA, Act.put, hP] at h2; exact h2)
    · (intro ys w' hB hP K hK; simp only [Preds, Region.binds, FactD, forall_const, and_true, true_and] at hP; simp only [fillA]; go_simp; (have h2 := fun v => hK v w' hB); simp only [FactD, forall_eq] at h2; (have h2 := h2 (fun _ _ _ h => h)); simp [fillA, Act.put, hP] at h2; exact h2)
    · (intro ys w' hB hP; simp only [Preds, Region.binds, FactD, forall_const, and_true, true_and] at hP)
      have hS2 : SS lv w' p s o ts := ⟨_, _, _, _, _, hS.gr hB.1⟩
      obtain ⟨hB1, x3, x4, hB2⟩ := hB
      have hT := blk_lt hB2
      intro K hK
      simp only [fillA]
      go_simp
      refine (list_walk hok hS2).mono ?_
      rintro e w1 ⟨v, rfl, hr, hk, hg⟩
      have h2 := hK v w1 ⟨hB1.trans hg, x3, x4, hg.blk hB2⟩ ⟨hr, fun k hk' => by have := hk k hk'; omega⟩ ?_
      · simp [fillA, Act.put, hP] at h2
        exact h2
      · exact fun j u _ h => h.gr hg
    · (intro ys w' hB hP K hK; simp only [Preds, Region.binds, FactD, forall_const, and_true, true_and] at hP; simp only [fillA]; go_simp; (have h2 := fun v => hK v w' hB); simp only [FactD, forall_eq] at h2; (have h2 := h2 (fun _ _ _ h => h)); simp [fillA, Act.put, hP] at h2; exact h2)
    · (intro ys w' hB hP; simp only [Preds, Region.binds, FactD, forall_const, and_true, true_and] at hP)
      obtain ⟨hB1, x3, x4, hB2⟩ := hB
      obtain ⟨hP1, hP2⟩ : ys 9 = .pointer (some ⟨w.heap.size, 4, none⟩) ∧ ys 4 = .string (strOf s.inters) := ⟨by simp [hP], by simp [hP]⟩
      clear hP
      have q4 := cell_of_row hB2 4 _ rfl
      have qf : ∀ i, w'.frozen? ⟨w.heap.size, i, none⟩ = false := fun i => by unfold tbox at hB2; simp [World.frozen?, hB2]
      intro K hK
      simp only [fillA]
      go_simp
      have h2 := hK undef (w'.setCell ⟨w.heap.size, 4, none⟩ (.string (strOf s.inters))) ⟨hB1.setCell (Nat.le_refl _) _, _, _, hB2.set4 _⟩ ⟨_, hB2.set4 _⟩ (fun j u _ h => h.set4)
      simp [fillA, Act.put, hP1, hP2] at h2
      exact h2
    · (intro ys w' hB hP K hK; simp only [Preds, Region.binds, FactD, forall_const, and_true, true_and] at hP; simp only [fillA]; go_simp; (have h2 := fun v => hK v w' hB); simp only [FactD, forall_eq] at h2; (have h2 := h2 (fun _ _ _ h => h)); simp [fillA, Act.put, hP] at h2; exact h2)
    · (intro ys w' hB hP; simp only [Preds, Region.binds, FactD, forall_const, and_true, true_and] at hP)
      obtain ⟨hB1, x3, x4, hB2⟩ := hB
      obtain ⟨hP1, hP2⟩ : ys 11 = .pointer (some ⟨w.heap.size, 3, none⟩) ∧ rowP w.heap.size (accList s) (ys 8) w' := ⟨by simp [hP], by simp [hP]⟩
      clear hP
      have q3 := cell_of_row hB2 3 _ rfl
      have qf : ∀ i, w'.frozen? ⟨w.heap.size, i, none⟩ = false := fun i => by unfold tbox at hB2; simp [World.frozen?, hB2]
      obtain ⟨ra, rc, hy8⟩ := hP2.1.form
      intro K hK
      simp only [fillA]
      go_simp
      have h2 := hK undef (w'.setCell ⟨w.heap.size, 3, none⟩ (ys 8)) ⟨hB1.setCell (Nat.le_refl _) _, _, _, hB2.set3 _⟩ ⟨_, _, hP2.set _ _, hB2.set3 _⟩ (fun j u hj h => h.set3 hj)
      simp [fillA, Act.put, hP1, hy8] at h2
      exact h2
  · intro ys w' hB hF
    have f10 : ∃ x3, tbox w' w.heap.size s _ x3 (.string (strOf s.inters)) := hF 10 (by decide)
    have f12 : ∃ x3 x4, rowP w.heap.size (accList s) x3 w' ∧ tbox w' w.heap.size s _ x3 x4 := hF 12 (by decide)
    clear hF
    obtain ⟨hB1, _⟩ := hB
    obtain ⟨ra, rc, hr, ht⟩ := tbox_fin f10 f12
    clear f10 f12
    simp only [fillA]
    obtain ⟨t0, t1, t2, t3, t4, t5, tf⟩ := cells6 ht
    obtain ⟨o0, of⟩ := cells1 (hB1.blk hS.om.blk)
    obtain ⟨oa, oc, rfl⟩ := row_form hS.om.row
    go_wp2_with fail
    have hgx := hB1.alloc (.cells (tcells (tokOf s) (.slice ra (accList s).length rc, .slice da s.data.length dc)).toArray 34)
    obtain ⟨a0, af⟩ := cells1 (hgx.blk hS.om.blk)
    have hb := heap_alloc_new w' (.cells (tcells (tokOf s) (.slice ra (accList s).length rc, .slice da s.data.length dc)).toArray 34)
    have hT := blk_lt ht
    have hol := blk_lt (hB1.blk hS.om.blk)
    go_region_law (refine step_pushO rfl _ _ _ rfl Tryd.underlying45 (hS.omD.gr (by (repeat (first | with_reducible (refine Gr.setCell ?_ ?hp _; case hp => (simp; try omega)) | with_reducible refine Gr.alloc ?_ _ | with_reducible refine Gr.drew ?_ | with_reducible refine Gr.drewN ?_ _ | with_reducible assumption | with_reducible exact Gr.refl _ | with_reducible refine Gr.trans ?_ (by assumption))))) (tokOf s) (.slice ra (accList s).length rc, .slice da s.data.length dc) w'.heap.size (by simp [Act.eval]) (by simp [Act.eval]) hb ⟨rfl, rfl⟩ hn ?_; intro g cap w3 hG hown hb1; obtain ⟨r0, rf⟩ := cells1 hb1)
    all_goals
      have hp3 := hS.blkD (hB1.trans (by (repeat (first | with_reducible (refine Gr.setCell ?_ ?hp _; case hp => (simp; try omega)) | with_reducible refine Gr.alloc ?_ _ | with_reducible refine Gr.drew ?_ | with_reducible refine Gr.drewN ?_ _ | with_reducible assumption | with_reducible exact Gr.refl _ | with_reducible refine Gr.trans ?_ (by assumption))))) hG
      go_wp2_with (go_at_call 31; refine (reset_walk p _ rfl _ hp3).mono ?_; rintro e w4 ⟨rfl, hh4, hu4, hs4⟩)
      go_end0
      obtain ⟨lv', h1, h2⟩ := hS.doneFin (hB1.trans (by (repeat (first | with_reducible (refine Gr.setCell ?_ ?hp _; case hp => (simp; try omega)) | with_reducible refine Gr.alloc ?_ _ | with_reducible refine Gr.drew ?_ | with_reducible refine Gr.drewN ?_ _ | with_reducible assumption | with_reducible exact Gr.refl _ | with_reducible refine Gr.trans ?_ (by assumption))))) (x3 := .slice ra (accList s).length rc) (hr.gr (by (repeat (first | with_reducible (refine Gr.setCell ?_ ?hp _; case hp => (simp; try omega)) | with_reducible refine Gr.alloc ?_ _ | with_reducible refine Gr.drew ?_ | with_reducible refine Gr.drewN ?_ _ | with_reducible assumption | with_reducible exact Gr.refl _ | with_reducible refine Gr.trans ?_ (by assumption))))) hG hown hh4 hu4
      exact ⟨rfl, lv', h1, by simpa [emit, hv, tokOf] using h2⟩
theorem done_SS (hok : s.ok) (hn : ts.length ≤ 100000) (h : SS lv w p s o ts) : Calls Tryd.prog 32 #[.pointer (some ⟨p, 0, none⟩), .pointer (some ⟨o, 0, none⟩)] w fun e w' => e = .returned (.tuple #[]) ∧ ∃ lv', Stp lv w lv' w' ∧ SS lv' w' p PS.init o (ts ++ emit s) := by
  cases hv : s.void with
  | true => exact done_void hv h
  | false => exact done_full hv hok hn h
end Go.Proofs.YtnnhaenmoifplaaDoor

namespace Go.Proofs.YtnnhaenmoifplaaDoor
set_option linter.unusedSimpArgs false
set_option linter.unusedVariables false
set_option linter.unusedSectionVars false
open Go.RowKit
variable [Bs]

variable {lv : List Nat} {w : World} {p o : Nat} {s : PS} {ts : List Tok}

/-- What a byte that is taken leaves. -/
def Took (lv : List Nat) (w : World) (p o : Nat) (ts : List Tok) (r : PS × List Tok) (w' : World) : Prop := ∃ lv', Stp lv w lv' w' ∧ SS lv' w' p r.1 o (ts ++ r.2)
theorem Took.of {lv lv' : List Nat} {w w' : World} {p o : Nat} {ts : List Tok} {r : PS × List Tok} (hs : Stp lv w lv' w') (h : SS lv' w' p r.1 o (ts ++ r.2)) : Took lv w p o ts r w' := ⟨lv', hs, h⟩
theorem Took.of0 {lv lv' : List Nat} {w w' : World} {p o : Nat} {ts : List Tok} {s : PS} (hs : Stp lv w lv' w') (h : SS lv' w' p s o ts) : Took lv w p o ts (s, []) w' := ⟨lv', hs, by simpa using h⟩

/-- One cell of the parser is another. -/
theorem SS.set (h : SS lv w p s o ts) (i : Nat) (u : Value) (s' : PS) (hcs : ∀ iv dv av, (pcells s iv dv av).setIfInBounds i u = pcells s' iv dv av)
    (hi : s'.inters = s.inters) (hd : s'.data = s.data) (ha : s'.done = s.done) : SS lv (w.setCell ⟨p, i, none⟩ u) p s' o ts ∧ Stp lv w lv (w.setCell ⟨p, i, none⟩ u) := by
  obtain ⟨iv, dv, av, ov, qs, hS⟩ := h
  obtain ⟨h2, hu⟩ := hS.set (s' := s') i u (hcs _ _ _) hi hd ha
  exact ⟨⟨_, _, _, _, _, h2⟩, .one hS.pm.pIn hu⟩

set_option maxRecDepth 100000 in
set_option maxHeartbeats 1000000 in
theorem escaped_SS (c : Int) (hc : 0 ≤ c ∧ c < 256) (hok : s.ok) (hn : ts.length ≤ 100000) (h : SS lv w p s o ts) : Calls Tryd.prog 34 #[.pointer (some ⟨p, 0, none⟩), .int .u8 c, .pointer (some ⟨o, 0, none⟩)] w fun e w' => e = .returned (.tuple #[]) ∧ Took lv w p o ts (escapedM s c) w' := by
  obtain ⟨hSc, hsc⟩ := h.set 2 (.int .u8 c) { s with code := c } (fun _ _ _ => rfl) rfl rfl rfl
  have hokc := ok_code hok c hc
  have hh := h
  obtain ⟨iv, dv, av, ov, qs, hS⟩ := h
  obtain ⟨k0, k1, k2, k3, k4, k5, k6, k7, k8, k9, k10, k11, k12, kf⟩ := cells13 hS.pm.blk
  obtain ⟨kd, hkd⟩ : ∃ kd, kd = opKind c := ⟨_, rfl⟩
  obtain ⟨ka, hka⟩ : ∃ ka, ka = opAt c := ⟨_, rfl⟩
  have ho : Calls Tryd.prog 43 #[.int .u8 c] w fun e w' => e = .returned (.tuple #[.int .i64 kd, .int .i64 ka]) ∧ w = w' := by rw [hkd, hka]; exact opened_walk c w
  have H1 := Lib.hid hkd
  have H2 := Lib.hid hka
  clear hkd hka
  go_enter Tryd.func34, Tryd.ntmps34
  go_wp2_with (first
    | (go_at_call 43; refine ho.mono ?_; rintro e w' ⟨rfl, rfl⟩)
    | (go_at_call 44; refine (inter_SS c hok hh).mono ?_; rintro e w1 ⟨rfl, lv1, hs1, hS1⟩)
    | (go_at_call 32; refine (done_SS hokc hn hSc).mono ?_; rintro e w1 ⟨rfl, lv1, hs1, hS1⟩)
    | (go_at_call 30; refine (begin_SS ka kd hh).mono ?_; rintro e w1 ⟨rfl, hs1, hS1⟩)
    | (go_at_call 31; refine (reset_SS hh).mono ?_; rintro e w1 ⟨rfl, hs1, hS1⟩))
  all_goals go_end0
  all_goals refine ⟨rfl, ?_⟩
  · have e : escapedM s c = (interM s c, []) := by simp only [escapedM]; rw [if_pos (by omega)]
    rw [e]; exact .of0 hs1 hS1
  · have hf : s.first = false := by simp_all
    have e : escapedM s c = (PS.init, emit { s with code := c }) := by simp only [escapedM]; rw [if_neg (by omega), if_pos hf]
    rw [e]; exact .of (hsc.trans hs1) hS1
  all_goals
    have hf : ¬ s.first = false := by simp_all
  · have hk : opKind c ≠ 0 := by rw [← H1.out]; simp_all
    have e : escapedM s c = (PS.begin_ ka kd, []) := by simp only [escapedM]; rw [if_neg (by omega), if_neg hf, if_pos hk, H1.out, H2.out]
    rw [e]; exact .of0 hs1 hS1
  all_goals
    have hk : ¬ opKind c ≠ 0 := by rw [← H1.out]; simp_all
  · have hc : c = 92 := by simp_all
    have e : escapedM s c = (PS.init, []) := by simp only [escapedM]; rw [if_neg (by omega), if_neg hf, if_neg hk, if_pos hc]
    rw [e]; exact .of0 hs1 hS1
  · have hc : ¬ c = 92 := by simp_all
    have e : escapedM s c = (PS.init, emit { s with code := c }) := by simp only [escapedM]; rw [if_neg (by omega), if_neg hf, if_neg hk, if_neg hc]
    rw [e]; exact .of (hsc.trans hs1) hS1
end Go.Proofs.YtnnhaenmoifplaaDoor
