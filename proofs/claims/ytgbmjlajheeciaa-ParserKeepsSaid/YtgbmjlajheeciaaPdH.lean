/-
  Parsers that are alike are found alike: Same, walked.
-/
import Derived.Test.YtgbmjlajheeciaaPdF
import Derived.Deep.RegionHeld3
namespace Go.Proofs.Ytgbmjlajheeciaa
set_option linter.unusedSimpArgs false
set_option linter.unusedVariables false
open Go.RowKit

set_option maxRecDepth 100000 in
set_option maxHeartbeats 1000000 in
/-- Two rows of the same numbers are equal. -/
theorem equal_ints {w : World} {v1 v2 : Value} {l : List Int} (h1 : HasRow w 3 v1 l.length (icells l)) (h2 : HasRow w 3 v2 l.length (icells l)) (hn : l.length ≤ 100000) :
    Calls Try.prog 48 #[v1, v2] w fun e w' => e = .returned (.bool true) ∧ ∃ n, w' = w.drewN n := by
  obtain ⟨a1, c1, rfl⟩ := h1.form
  obtain ⟨a2, c2, rfl⟩ := h2.form
  go_enter Try.func48, Try.ntmps48
  go_wp2_with fail
  go_loopw [13] (fun i wr => ∃ k : Nat, k ≤ l.length ∧ i = .int .i64 k ∧ ∃ n, wr = w.drewN n) (fun i _ => l.length - (intOf i).toNat)
  case atStart => exact ⟨0, Nat.zero_le _, rfl, 0, rfl⟩
  case round =>
    obtain ⟨k, hk, rfl, nn, rfl⟩ := hrel
    have hg := (Gr.refl w).drewN nn
    by_cases hlt : k < l.length
    · obtain ⟨g1, p1, u1, hv1, hu1, hc1⟩ := h1.at_ hlt
      obtain ⟨g2, p2, u2, hv2, hu2, hc2⟩ := h2.at_ hlt
      injection hv1 with e1 e2 e3
      injection hv2 with e4 e5 e6
      subst e1; subst e4
      have hu1 := icells_at hu1
      have hu2 := icells_at hu2
      subst hu1; subst hu2
      obtain ⟨x, hx⟩ : ∃ x, x = l.getD k 0 := ⟨_, rfl⟩
      rw [← hx] at hc1 hc2
      have hkn : (k : Int) < (l.length : Int) := by omega
      have k0 : (0 : Int) ≤ (k : Int) := by omega
      clear hx h1 h2 hu1 hu2 e2 e3 e5 e6
      go_wp2_with fail
      go_quiet (fail)
      go_wp2_with fail
      go_roundw
      case rel => exact ⟨k + 1, by omega, by go_num, _, rfl⟩
      case measure => simp [intOf]; omega
    · have hkn : ¬ (k : Int) < (l.length : Int) := by omega
      clear h1 h2
      go_wp2_with fail
      go_ret
      exact ⟨rfl, nn, rfl⟩

theorem equal_bytes {w : World} {v1 v2 : Value} {l : List Int} (h1 : HasRow w 5 v1 l.length (bcells l)) (h2 : HasRow w 5 v2 l.length (bcells l)) :
    Calls Try.prog 29 #[v1, v2] w fun e w' => e = .returned (.bool true) ∧ w = w' := by
  have c1 := conv_row h1
  have c2 := conv_row h2
  obtain ⟨a1, p1, rfl⟩ := h1.form
  obtain ⟨a2, p2, rfl⟩ := h2.form
  clear h1 h2
  go_enter Try.func29, Try.ntmps29
  go_wp2
  go_ret
  exact ⟨rfl, rfl⟩

set_option maxRecDepth 100000 in
set_option maxHeartbeats 1000000 in
/-- The same token, the program's. -/
theorem token_same {w : World} {t : Tok} {q q' : Value × Value} (h1 : RTok w t q) (h2 : RTok w t q') (hn : t.params.length ≤ 100000) :
    Calls Try.prog 28 #[.agg (tcells t q).toArray, .agg (tcells t q').toArray] w fun e w' => e = .returned (.bool true) ∧ Gr w w' := by
  obtain ⟨qp, qd⟩ := q
  obtain ⟨qp', qd'⟩ := q'
  obtain ⟨a1, c1, hv1⟩ := h1.params.form
  obtain ⟨a2, c2, hv2⟩ := h2.params.form
  obtain ⟨a3, c3, hv3⟩ := h1.data.form
  obtain ⟨a4, c4, hv4⟩ := h2.data.form
  simp only at hv1 hv2 hv3 hv4
  subst hv1; subst hv2; subst hv3; subst hv4
  simp only [tcells]
  have hg := ((Gr.refl w).alloc (.cells #[.int .i64 t.kind, .int .u8 t.code, .int .u8 t.mark, .slice a1 t.params.length c1, .string (strOf t.inters), .slice a3 t.data.length c3] 31)).alloc (.cells #[.int .i64 t.kind, .int .u8 t.code, .int .u8 t.mark, .slice a2 t.params.length c2, .string (strOf t.inters), .slice a4 t.data.length c4] 31)
  have hc := equal_ints (h1.params.gr hg) (h2.params.gr hg) hn
  go_enter Try.func28, Try.ntmps28
  go_wp2_with (first
    | (go_at_call 48; refine hc.mono ?_; rintro e w1 ⟨rfl, nn, rfl⟩; have hg1 := hg.drewN nn)
    | (go_at_call 29; refine (equal_bytes (h1.data.gr hg1) (h2.data.gr hg1)).mono ?_; rintro e w2 ⟨rfl, rfl⟩))
  go_ret
  exact ⟨rfl, hg1⟩

set_option maxRecDepth 100000 in
set_option maxHeartbeats 1000000 in
/-- The accumulators of two parsers that are alike. -/
theorem acc_same {lv lv2 : List Nat} {w : World} {p p2 : Nat} {s : PS} {iv dv av iv2 dv2 av2 : Value} (hok : s.ok) (h1 : PMem lv w p s iv dv av) (h2 : PMem lv2 w p2 s iv2 dv2 av2) :
    Calls Try.prog 30 #[.pointer (some ⟨p, 8, none⟩), .pointer (some ⟨p2, 8, none⟩)] w fun e w' => e = .returned (.bool true) ∧ Gr w w' := by
  obtain ⟨k0, k1, k2, k3, k4, k5, k6, k7, k8, k9, k10, k11, k12, kf⟩ := cells13 h1.blk
  obtain ⟨j0, j1, j2, j3, j4, j5, j6, j7, j8, j9, j10, j11, j12, jf⟩ := cells13 h2.blk
  have hn := hok.done
  have he := fun n : Nat => equal_ints (w := w.drewN n) ((HasRow.of_own h1.done).gr ((Gr.refl w).drewN n)) ((HasRow.of_own h2.done).gr ((Gr.refl w).drewN n)) (by omega)
  obtain ⟨a1, c1, rfl⟩ := row_form h1.done
  obtain ⟨a2, c2, rfl⟩ := row_form h2.done
  clear h1 h2 hok k0 k1 k2 k3 k4 k5 k6 k7 k11 k12 j0 j1 j2 j3 j4 j5 j6 j7 j11 j12
  go_enter Try.func30, Try.ntmps30
  go_wp2_with fail
  go_quiet ((go_at_call 48; exact Calls.quiet_of (he _)))
  go_wp2_with fail
  go_ret
  exact ⟨rfl, by (repeat (first | with_reducible exact Gr.refl _ | with_reducible assumption | with_reducible refine Gr.setCell ?_ (by simp; try omega) _ | with_reducible refine Gr.alloc ?_ _ | with_reducible refine Gr.drew ?_ | with_reducible refine Gr.drewN ?_ _ | with_reducible refine Gr.trans ?_ (by assumption)))⟩
set_option maxRecDepth 100000 in
set_option maxHeartbeats 2000000 in
theorem same_phase {lv lv2 : List Nat} {w : World} {p p2 : Nat} {s s2 : PS} (hne : s.phase ≠ s2.phase) (h1 : PP lv w p s) (h2 : PP lv2 w p2 s2) :
    Calls Try.prog 17 #[.pointer (some ⟨p, 0, none⟩), .pointer (some ⟨p2, 0, none⟩)] w fun e w' => e = .returned (.bool false) ∧ Gr w w' := by
  obtain ⟨iv, dv, av, h1⟩ := h1
  obtain ⟨iv2, dv2, av2, h2⟩ := h2
  have hS1 : w.cell? ⟨p, 0, none⟩ = some (.int .i64 s.phase) := cell_of_row h1.blk 0 _ rfl
  have hS2 : w.cell? ⟨p2, 0, none⟩ = some (.int .i64 s2.phase) := cell_of_row h2.blk 0 _ rfl
  obtain ⟨x, hx⟩ : ∃ x, x = s.phase := ⟨_, rfl⟩
  obtain ⟨y, hy⟩ : ∃ y, y = s2.phase := ⟨_, rfl⟩
  rw [← hx] at hS1 hne
  rw [← hy] at hS2 hne
  clear hx hy h1 h2
  have hq : (x == y) = false := by simpa using hne
  have hd : decide (x = y) = false := by simpa using hne
  go_enter Try.func17, Try.ntmps17
  go_wp2_with fail
  go_quiet (fail)
  go_wp2_with fail
  go_ret
  exact ⟨rfl, by (repeat (first | with_reducible exact Gr.refl _ | with_reducible assumption | with_reducible refine Gr.setCell ?_ (by simp; try omega) _ | with_reducible refine Gr.alloc ?_ _ | with_reducible refine Gr.drew ?_ | with_reducible refine Gr.drewN ?_ _ | with_reducible refine Gr.trans ?_ (by assumption)))⟩
end Go.Proofs.Ytgbmjlajheeciaa
