/-
  opened, walked.
  slices.Clone of a row of ints or of bytes, and slices.Clip, walked.
  slices.Clip and the accumulator's method List, walked.
-/
import Derived.Test.YtgbmjlajheeciaaPaT
namespace Go.Proofs.Ytgbmjlajheeciaa
set_option linter.unusedSimpArgs false
set_option linter.unusedVariables false
set_option linter.unusedSectionVars false
section
open Go.RowKit
variable [Bs]

set_option maxRecDepth 100000 in
set_option maxHeartbeats 1000000 in
theorem opened_walk (c : Int) (w : World) : Calls Try.prog 69 #[.int .u8 c] w fun e w' => e = .returned (.tuple #[.int .i64 (opKind c), .int .i64 (opAt c)]) ∧ w = w' := by
  go_enter Try.func69, Try.ntmps69
  go_wp2_with fail
  all_goals go_ret2
  all_goals (simp only [beq_iff_eq, beq_eq_false_iff_ne, ne_eq] at *; (try subst c); simp [*, opKind, opAt])
end
section
open Go.RowKit
variable [Bs]

set_option maxHeartbeats 2000000 in
set_option maxRecDepth 100000 in
theorem clone_ints (B n : Nat) (v : Value) (l : List Int) (w : World) (h : w.ownsRow B 3 1 v n (icells l)) (hn : n ≤ 100000) :
    Calls Try.prog 49 #[v] w fun e w' => ∃ v', e = .returned v' ∧ w'.ownsRow w.heap.size 3 1 v' n (icells l) ∧ Gr w w' := by
  obtain ⟨i0, hi0, hz0, hz1, hz2⟩ := info_parts int_info
  have q22 : ∀ (w : World) (a : Option Addr) (n c n' c' : Nat), (binOp .eql 29 (.slice a n c) (.slice none n' c')).run Try.prog w = .ok (.bool a.isNone) w := fun w a n c n' c' => Lib.run_eql_slice_nil w _ _ a n c n' c' Try.underlying29
  rcases h.2 with ⟨rfl, rfl⟩ | ⟨g, cap, cur, rfl, hg, hh, hnc, hcm, hcs, htk⟩
  · go_enter Try.func49, Try.ntmps49
    go_wp2_with fail
    go_ret
    have : l = [] := by have := h.1; simp [icells] at this; exact this
    subst this
    exact ⟨_, rfl, World.ownsRow_nil _ _ _ _, .refl _⟩
  · have hcells : ∀ j u, (icells l)[j]? = some u → w.cell? ⟨g, j, none⟩ = some u := by
      intro j u hj
      refine cell_of_row hh j u ?_
      rw [← htk] at hj
      have hlt := (List.getElem?_eq_some_iff.1 hj).1
      rw [List.getElem?_take] at hj
      split at hj
      · simpa using hj
      · cases hj
    have hgl := blk_lt hh
    go_enter Try.func49, Try.ntmps49
    go_wp2_with (at_builtin; refine wpList_append_own _ rfl _ _ _ rfl w.heap.size 3 i0 (.int .i64 0) 1 8 Try.underlying29 hi0 hz0 hz1 hz2 rfl (by decide) _ _ _ rfl (World.ownsRow_made w #[] 0 (Nat.le_refl _) (Nat.zero_le _) rfl) ⟨g, 0, none⟩ n cap (icells l) rfl ?qc1 ?qc2 ?qc3 ?qc4 ?qc5 ?qc6 ?_)
    case qc1 => exact h.1
    case qc2 =>
      intro j u hj
      have e : (⟨g, 0, none⟩ : Addr).add j = ⟨g, j, none⟩ := by rcases j with _ | j <;> simp [Addr.add]
      rw [e]
      exact Lib.cell?_alloc_some _ (hcells j u hj)
    case qc3 => intro u hu; obtain ⟨x, _, rfl⟩ := List.mem_map.1 hu; rfl
    case qc4 => unfold maxLen; omega
    case qc5 => omega
    case qc6 => simp
    intro v' w1 hown hgrow hnil
    go_wp2
    go_ret
    exact ⟨v', rfl, by simpa using hown, ((Below.refl _ w).alloc (Nat.le_refl _) _).grown hgrow (by simp) (by intro k hk; simp [Value.ownBlock] at hk; omega)⟩
end
section
open Go.RowKit
variable [Bs]

variable {lv : List Nat} {w : World} {p o : Nat} {s : PS} {ts : List Tok}

set_option maxHeartbeats 1000000 in
theorem clip_ints (B n : Nat) (v : Value) (xs : List Value) (w : World) (h : w.ownsRow B 3 1 v n xs) :
    Calls Try.prog 72 #[v] w fun e w' => ∃ v', e = .returned v' ∧ HasRow w 3 v' n xs ∧ v'.ownBlock = v.ownBlock ∧ w = w' := by
  rcases h.2 with ⟨rfl, rfl⟩ | ⟨g, cap, cur, rfl, hg, hh, hnc, hcm, hcs, htk⟩
  · go_enter Try.func72, Try.ntmps72
    go_wp2_with fail
    go_ret
    exact ⟨_, rfl, .of_own h, rfl, rfl⟩
  · go_enter Try.func72, Try.ntmps72
    go_wp2_with fail
    go_ret
    refine ⟨_, rfl, ⟨by simpa using h.1, .inr ⟨g, n, cur, rfl, hh, Nat.le_refl _, by omega, by simpa using htk⟩⟩, rfl, rfl⟩
set_option maxRecDepth 100000 in
set_option maxHeartbeats 1000000 in
theorem list_walk (hok : s.ok) (h : SS lv w p s o ts) : Calls Try.prog 68 #[.pointer (some ⟨p, 8, none⟩)] w fun e w' => ∃ v, e = .returned v ∧ HasRow w' 3 v (accList s).length (icells (accList s)) ∧ (∀ k, v.ownBlock = some k → w.heap.size ≤ k) ∧ Gr w w' := by
  obtain ⟨iv, dv, av, ov, qs, hS⟩ := h
  obtain ⟨k0, k1, k2, k3, k4, k5, k6, k7, k8, k9, k10, k11, k12, kf⟩ := cells13 hS.pm.blk
  have hn : s.done.length ≤ 100000 := by have := hok.done; omega
  go_enter Try.func68, Try.ntmps68
  go_wp2_with (first
    | (go_at_call 49; refine (clone_ints Bs.b s.done.length av s.done w hS.pm.done hn).mono ?_; rintro e w1 ⟨v1, rfl, hr1, hb1⟩; obtain ⟨a1, c1, rfl⟩ := row_form hr1; obtain ⟨q0, q1, q2, q3, q4, q5, q6, q7, q8, q9, q10, q11, q12, qf⟩ := cells13 (hb1.blk hS.pm.blk))
    | (at_builtin; refine wpList_push1 rfl _ _ _ rfl w.heap.size 3 (.int .i64 0) 8 Try.underlying29 int_info rfl (by omega) _ _ _ _ (hr1.alloc _) _ rfl rfl (cell_alloc1 _ _ _) rfl (by omega) (by have := hb1.size; simp; omega) ?_; intro g cap w2 hG hown)
    | (go_at_call 72; refine (clip_ints _ _ _ _ _ (by assumption)).mono ?_; rintro e w3 ⟨v3, rfl, hr3, hk3, rfl⟩))
  all_goals go_ret
  · have e : accList s = s.done ++ [s.now] := by simp only [accList]; rw [if_pos ⟨by assumption, by omega⟩]
    rw [e]
    refine ⟨v3, rfl, by simpa [icells] using hr3, fun k hk => ?_, hG.gr (hb1.alloc _) fun k hk => ownsRow_base hr1 hk⟩
    rw [hk3] at hk
    exact ownsRow_base hown hk
  all_goals
    have e : accList s = s.done := by
      simp only [accList]; rw [if_neg]; rintro ⟨h1, h2⟩; first | omega | simp_all
    rw [e]
    refine ⟨v3, rfl, hr3, fun k hk => ?_, hb1⟩
    rw [hk3] at hk
    exact ownsRow_base hr1 hk
end
end Go.Proofs.Ytgbmjlajheeciaa
