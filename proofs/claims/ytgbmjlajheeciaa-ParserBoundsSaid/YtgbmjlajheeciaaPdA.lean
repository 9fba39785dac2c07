/-
  Two rows of tokens that are alike are found alike: the document's Same, and the laws' Are, walked.
-/
import Derived.Test.YtgbmjlajheeciaaPcK
import Derived.Deep.MidRow
import Derived.BigQuiet
import Derived.Deep.QuietTactic
namespace Go.Proofs.Ytgbmjlajheeciaa
set_option linter.unusedSimpArgs false
set_option linter.unusedVariables false
open Go.RowKit

theorem HasRow.at_ {w : World} {e n : Nat} {v : Value} {xs : List Value} (h : HasRow w e v n xs) {k : Nat} (hk : k < n) : ∃ g cap u, v = .slice (some ⟨g, 0, none⟩) n cap ∧ xs[k]? = some u ∧ w.cell? ⟨g, k, none⟩ = some u := by
  have hl := h.1
  rcases h.2 with ⟨_, h0⟩ | ⟨g, cap, cur, hv, hh, hn, hc, ht⟩
  · omega
  · have hu : xs[k]? = some xs[k] := List.getElem?_eq_getElem (by omega)
    exact ⟨g, cap, _, hv, hu, h.cells (g := g) (by rw [hv]; rfl) k _ hu⟩
theorem icells_at {l : List Int} {k : Nat} {u : Value} (h : (icells l)[k]? = some u) : u = .int .i64 (l.getD k 0) := by
  simp only [icells, List.getElem?_map] at h
  rcases hx : l[k]? with _ | x
  · rw [hx] at h; cases h
  · rw [hx] at h; simp at h; simp [List.getD, hx, h]

set_option maxRecDepth 100000 in
set_option maxHeartbeats 1000000 in
/-- Two rows of the same numbers. -/
theorem same_ints {w : World} {v1 v2 : Value} {l : List Int} (h1 : HasRow w 3 v1 l.length (icells l)) (h2 : HasRow w 3 v2 l.length (icells l)) (hn : l.length ≤ 100000) :
    Calls Try.prog 47 #[v1, v2] w fun e w' => e = .returned (.bool true) ∧ Gr w w' := by
  obtain ⟨a1, c1, rfl⟩ := h1.form
  obtain ⟨a2, c2, rfl⟩ := h2.form
  go_enter Try.func47, Try.ntmps47
  go_wp2_with fail
  go_loopw [5] (fun i wr => ∃ k : Nat, k ≤ l.length ∧ i = .int .i64 k ∧ Gr w wr) (fun i _ => l.length - (intOf i).toNat)
  case atStart => exact ⟨0, Nat.zero_le _, rfl, .refl _⟩
  case round =>
    obtain ⟨k, hk, rfl, hg⟩ := hrel
    by_cases hlt : k < l.length
    · obtain ⟨g1, p1, u1, hv1, hu1, hc1⟩ := (h1.gr hg).at_ hlt
      obtain ⟨g2, p2, u2, hv2, hu2, hc2⟩ := (h2.gr hg).at_ hlt
      injection hv1 with e1 e2 e3
      injection hv2 with e4 e5 e6
      subst e1; subst e4
      have hu1 := icells_at hu1
      have hu2 := icells_at hu2
      subst hu1; subst hu2
      obtain ⟨x, hx⟩ : ∃ x, x = l.getD k 0 := ⟨_, rfl⟩
      rw [← hx] at hc1 hc2
      have hkn : (k : Int) < (l.length : Int) := by omega
      have k0 : (0 : Int) ≤ (k : Int) := by omega
      clear hx h1 h2 hu1 hu2 e2 e3 e5 e6
      go_wp2_with fail
      go_quiet (fail)
      go_wp2_with fail
      go_roundw
      case rel => exact ⟨k + 1, by omega, by go_num, by (repeat (first | with_reducible exact Gr.refl _ | with_reducible assumption | with_reducible refine Gr.setCell ?_ (by simp; try omega) _ | with_reducible refine Gr.alloc ?_ _ | with_reducible refine Gr.drew ?_ | with_reducible refine Gr.drewN ?_ _ | with_reducible refine Gr.trans ?_ (by assumption)))⟩
      case measure => simp [intOf]; omega
    · have hkn : ¬ (k : Int) < (l.length : Int) := by omega
      clear h1 h2
      go_wp2_with fail
      go_ret
      exact ⟨rfl, hg⟩

theorem tsCells_at : ∀ (ts : List Tok) (qs : List (Value × Value)) (i j : Nat) (t : Tok) (q : Value × Value), ts[i]? = some t → qs[i]? = some q → j < 6 → (tsCells ts qs)[i * 6 + j]? = (tcells t q)[j]? := by
  intro ts
  induction ts with
  | nil => intro qs i j t q h; simp at h
  | cons t ts ih =>
    intro qs i j t' q' ht hq hj
    cases qs with
    | nil => simp at hq
    | cons q qs =>
      simp only [tsCells]
      rcases i with _ | i
      · simp at ht hq
        subst ht; subst hq
        rw [List.getElem?_append_left (by simp [tcells]; omega)]
        simp
      · rw [List.getElem?_append_right (by simp [tcells]; omega)]
        have := ih qs i j t' q' (by simpa using ht) (by simpa using hq) hj
        rw [← this]
        congr 1
        simp [tcells]; omega
/-- A token of a row. -/
theorem tok_range {w : World} {B e : Nat} {v : Value} {n : Nat} {ts : List Tok} {qs : List (Value × Value)} (h : w.ownsRow B e 6 v n (tsCells ts qs)) (hl : qs.length = ts.length) {i : Nat} (hi : i < ts.length) :
    ∃ g cap t q, v = .slice (some ⟨g, 0, none⟩) n cap ∧ ts[i]? = some t ∧ qs[i]? = some q ∧ w.rangeAt g (i * 6) (tcells t q) := by
  obtain ⟨t, ht⟩ : ∃ t, ts[i]? = some t := ⟨_, List.getElem?_eq_getElem hi⟩
  obtain ⟨q, hq⟩ : ∃ q, qs[i]? = some q := ⟨_, List.getElem?_eq_getElem (by omega)⟩
  have h0 := tsCells_at ts qs i 0 t q ht hq (by omega)
  rcases h.2 with ⟨_, hx⟩ | ⟨g, cap, cur, hv, _, hh, hn, _, hs, hk⟩
  · have h1 := h.1
    have h2 : (tsCells ts qs)[i * 6 + 0]? = none := List.getElem?_eq_none (by omega)
    rw [h2] at h0; simp [tcells] at h0
  · refine ⟨g, cap, t, q, hv, ht, hq, fun j u hj => ?_⟩
    have hj6 : j < 6 := by
      have := (List.getElem?_eq_some_iff.1 hj).1
      simpa [tcells] using this
    refine cell_of_row hh _ _ ?_
    have := tsCells_at ts qs i j t q ht hq hj6
    rw [hj, ← hk, List.getElem?_take] at this
    split at this
    · simpa using this
    · cases this

set_option maxHeartbeats 1000000 in
/-- A token is told as the document has it. -/
theorem told_any (t : Tok) (pa da : Option Addr) (pn pc dn dc : Nat) (w : World) : Calls Try.prog 27 #[.agg (tcells t (.slice pa pn pc, .slice da dn dc)).toArray] w fun e w' => e = .returned (.agg (tcells t (.slice pa pn pc, .slice da dn dc)).toArray) ∧ Gr w w' := by
  simp only [tcells]
  go_enter Try.func27, Try.ntmps27
  go_wp2
  refine bodyPost_ret (v := .agg (tcells t (.slice pa pn pc, .slice da dn dc)).toArray) (by simp [results, Try.results27, go_sem, tcells]) rfl ⟨rfl, ?_⟩
  (repeat (first | with_reducible (refine Gr.setCell ?_ ?hp _; case hp => (simp; try omega)) | with_reducible refine Gr.alloc ?_ _ | with_reducible refine Gr.drew ?_ | with_reducible refine Gr.drewN ?_ _ | with_reducible assumption | with_reducible exact Gr.refl _ | with_reducible refine Gr.trans ?_ (by assumption)))

set_option maxRecDepth 100000 in
set_option maxHeartbeats 1000000 in
/-- The same token is the same token. -/
theorem same_tok {w : World} {t : Tok} {q q' : Value × Value} (h1 : RTok w t q) (h2 : RTok w t q') (hn : t.params.length ≤ 100000) :
    Calls Try.prog 26 #[.agg (tcells t q).toArray, .agg (tcells t q').toArray] w fun e w' => e = .returned (.bool true) ∧ Gr w w' := by
  obtain ⟨qp, qd⟩ := q
  obtain ⟨qp', qd'⟩ := q'
  obtain ⟨a1, c1, hv1⟩ := h1.params.form
  obtain ⟨a2, c2, hv2⟩ := h2.params.form
  obtain ⟨a3, c3, hv3⟩ := h1.data.form
  obtain ⟨a4, c4, hv4⟩ := h2.data.form
  simp only at hv1 hv2 hv3 hv4
  subst hv1; subst hv2; subst hv3; subst hv4
  simp only [tcells]
  have hg := ((Gr.refl w).alloc (.cells #[.int .i64 t.kind, .int .u8 t.code, .int .u8 t.mark, .slice a1 t.params.length c1, .string (strOf t.inters), .slice a3 t.data.length c3] 52)).alloc (.cells #[.int .i64 t.kind, .int .u8 t.code, .int .u8 t.mark, .slice a2 t.params.length c2, .string (strOf t.inters), .slice a4 t.data.length c4] 52)
  have hc := same_ints (h1.params.gr hg) (h2.params.gr hg) hn
  go_enter Try.func26, Try.ntmps26
  go_wp2_with (go_at_call 47; go_loud (refine hc.mono ?_; rintro e w1 ⟨rfl, hg1⟩; have k1 := conv_row (h1.data.gr (hg.trans hg1)); have k2 := conv_row (h2.data.gr (hg.trans hg1)); obtain ⟨f1, f2, f3⟩ := hg1.facts; have s1 : w.heap.size < w1.heap.size := (by simp at f3; omega); have s2 : w.heap.size + 1 < w1.heap.size := (by simp at f3; omega)))
  go_ret
  exact ⟨rfl, hg.trans hg1⟩
end Go.Proofs.Ytgbmjlajheeciaa
