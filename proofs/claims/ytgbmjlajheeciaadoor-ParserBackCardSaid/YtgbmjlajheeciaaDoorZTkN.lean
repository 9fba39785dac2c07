/-
  Any two tokens that came in: the document's Check, and its Same.
-/
import Derived.Test.YtgbmjlajheeciaaDoorZTkM
namespace Go.Proofs.YtgbmjlajheeciaaDoor
set_option linter.unusedSimpArgs false
set_option linter.unusedVariables false
open Go.RowKit
set_option linter.unusedVariables false

theorem rcheck_any {w : World} {t : Tok} {a1 a2 : Option Addr} {n1 c1 n2 c2 : Nat} (hr : TRange t) (h : RdTok w t a1 n1 a2 n2) : RChecks w t.kind t.code t.mark (strOf t.inters) (.slice a1 n1 c1) (.slice a2 n2 c2) (checkR t) := by
  obtain ⟨k, c, m, ps, l, d⟩ := t
  have hpl : ps.length = n1 := h.plen
  have hdl : d.length = n2 := h.dlen
  unfold checkR
  simp only
  by_cases hk : k < 1 ∨ 9 < k
  · rw [if_pos hk]; exact rcheck_kind hk
  · rw [if_neg hk]
    have hsz : (strOf l).size = l.length := strOf_size' l
    by_cases hb : 3 < l.length ∨ 30 < n1 ∨ 4096 < n2
    · have hg : greatB ps l d = true := by
        rw [greatB_iff]
        rcases hb with h | h | h
        · exact .inl h
        · exact .inr (.inl (by omega))
        · exact .inr (.inr (.inl (by omega)))
      rw [if_pos hg]
      exact rcheck_long (by omega) (by omega) (by rw [hsz]; exact hb)
    · have hl := rcheck_late (w := w) (k := k) (c := c) (m := m) (ps := ps) (l := l) (d := d) (c1 := c1) (c2 := c2) (by omega) (by omega) hr.inters hr.data (by omega) (by omega) (by omega) h.params h.data
      have e : lateR k c m ps l d = if greatB ps l d = true then 2 else if goodB ⟨k, c, m, ps, l, d⟩ = true then 0 else 3 := by
        unfold lateR
        by_cases ha : ps.all (fun x => decide (0 ≤ x) && decide (x ≤ 65535)) = true
        · have hG : ¬ greatB ps l d = true := by
            rw [greatB_iff]
            rintro (h1 | h1 | h1 | ⟨x, hx, hn⟩)
            · omega
            · omega
            · omega
            · have := List.all_eq_true.1 ha x hx
              simp at this
              exact hn this
          rw [if_pos ha]
          simp [hG]
        · have hG : greatB ps l d = true := by
            rw [greatB_iff]
            refine .inr (.inr (.inr ?_))
            apply Classical.byContradiction
            intro hn
            refine ha (List.all_eq_true.2 fun x hx => ?_)
            have : 0 ≤ x ∧ x ≤ 65535 := Classical.byContradiction fun hh => hn ⟨x, hx, hh⟩
            simp [this]
          rw [if_neg ha]
          simp [hG]
      rw [e] at hl
      exact hl

theorem take_eq_succ {l1 l2 : List Int} {k : Nat} {x : Int} (h : l1.take k = l2.take k) (h1 : l1[k]? = some x) (h2 : l2[k]? = some x) : l1.take (k + 1) = l2.take (k + 1) := by
  rw [List.take_add_one, List.take_add_one, h, h1, h2]
theorem icells_get {l : List Int} {k : Nat} {u : Value} (h : (icells l)[k]? = some u) : ∃ x, l[k]? = some x ∧ u = .int .i64 x := by
  simp only [icells, List.getElem?_map] at h
  rcases hx : l[k]? with _ | x
  · rw [hx] at h; cases h
  · rw [hx] at h; simp at h; exact ⟨x, rfl, h.symm⟩
theorem icells_len (l : List Int) : (icells l).length = l.length := by simp [icells]
set_option maxRecDepth 100000 in
set_option maxHeartbeats 1000000 in
/-- Two rows of numbers, wherever they lie. -/
theorem same_ints_rd {w : World} {a1 a2 : Option Addr} {n1 c1 n2 c2 : Nat} {l1 l2 : List Int} (h1 : Rd w a1 n1 (icells l1)) (h2 : Rd w a2 n2 (icells l2)) (hb : n1 ≤ 9223372036854775807) :
    Calls Tryd.prog 19 #[.slice a1 n1 c1, .slice a2 n2 c2] w fun e w' => e = .returned (.bool (l1 == l2)) ∧ Gr w w' := by
  have hl1 : l1.length = n1 := by rw [← icells_len]; exact h1.1
  have hl2 : l2.length = n2 := by rw [← icells_len]; exact h2.1
  by_cases hn : n1 = n2
  · subst hn
    have HL1 := Lib.hid hl1
    have HL2 := Lib.hid hl2
    clear hl1 hl2
    go_enter Tryd.func19, Tryd.ntmps19
    go_wp2_with fail
    go_loopw [5] (fun i wr => ∃ k : Nat, k ≤ n1 ∧ i = .int .i64 k ∧ l1.take k = l2.take k ∧ Gr w wr) (fun i _ => n1 - (intOf i).toNat)
    case atStart => exact ⟨0, Nat.zero_le _, rfl, rfl, .refl _⟩
    case round =>
      obtain ⟨k, hk, rfl, htk, hg⟩ := hrel
      by_cases hlt : k < n1
      · obtain ⟨g1, p1, u1, rfl, hu1, hc1, _⟩ := (h1.gr hg).at_ hlt
        obtain ⟨g2, p2, u2, rfl, hu2, hc2, _⟩ := (h2.gr hg).at_ hlt
        obtain ⟨x, hx, rfl⟩ := icells_get hu1
        obtain ⟨y, hy, rfl⟩ := icells_get hu2
        have hkn : (k : Int) < (n1 : Int) := by omega
        have k0 : (0 : Int) ≤ (k : Int) := by omega
        by_cases hxy : x = y
        · subst hxy
          have HT := Lib.hid (take_eq_succ htk hx hy)
          clear hx hy htk h1 h2 hu1 hu2
          go_wp2_with fail
          go_quiet (fail)
          go_wp2_with fail
          go_roundw
          case rel => exact ⟨k + 1, by omega, by go_num, HT.out, by (repeat (first | with_reducible exact Gr.refl _ | with_reducible assumption | with_reducible refine Gr.setCell ?_ (by simp; try omega) _ | with_reducible refine Gr.alloc ?_ _ | with_reducible refine Gr.drew ?_ | with_reducible refine Gr.drewN ?_ _ | with_reducible refine Gr.trans ?_ (by assumption)))⟩
          case measure => simp [intOf]; omega
        · have HN := Lib.hid (show (l1 == l2) = false by
            rw [beq_eq_false_iff_ne]; intro e; rw [e, hy] at hx; injection hx with hx; exact hxy hx.symm)
          have hb : (x != y) = true := by simpa using hxy
          clear hx hy htk h1 h2 hu1 hu2
          go_wp2_with fail
          go_quiet (fail)
          go_wp2_with fail
          go_ret
          exact ⟨by rw [HN.out]; rfl, by (repeat (first | with_reducible exact Gr.refl _ | with_reducible assumption | with_reducible refine Gr.setCell ?_ (by simp; try omega) _ | with_reducible refine Gr.alloc ?_ _ | with_reducible refine Gr.drew ?_ | with_reducible refine Gr.drewN ?_ _ | with_reducible refine Gr.trans ?_ (by assumption)))⟩
      · have hkn : ¬ (k : Int) < (n1 : Int) := by omega
        have HT := Lib.hid (show (l1 == l2) = true by
          rw [beq_iff_eq]
          rw [List.take_of_length_le (by have := HL1.out; omega), List.take_of_length_le (by have := HL2.out; omega)] at htk
          exact htk)
        clear h1 h2 htk
        go_wp2_with fail
        go_ret
        exact ⟨by rw [HT.out]; rfl, hg⟩
  · have HN := Lib.hid (show (l1 == l2) = false by
      rw [beq_eq_false_iff_ne]; intro e; rw [e] at hl1; omega)
    have hnn : ((n1 : Int) == (n2 : Int)) = false := by simp; omega
    have hnn2 : ((n1 : Int) != (n2 : Int)) = true := by simp; omega
    clear hl1 hl2 h1 h2
    go_enter Tryd.func19, Tryd.ntmps19
    go_wp2_with fail
    go_ret
    exact ⟨by rw [HN.out]; rfl, Gr.refl _⟩

/-- Are two tokens the same? -/
def sameT (t u : Tok) : Bool := (t.kind == u.kind) && ((t.code == u.code) && ((t.mark == u.mark) && ((t.inters == u.inters) && ((t.params == u.params) && (t.data == u.data)))))
theorem sameT_iff (t u : Tok) : sameT t u = true ↔ t = u := by
  obtain ⟨k, c, m, p, l, d⟩ := t
  obtain ⟨k', c', m', p', l', d'⟩ := u
  simp only [sameT, Bool.and_eq_true, beq_iff_eq, Tok.mk.injEq]
  constructor
  · rintro ⟨h1, h2, h3, h4, h5, h6⟩; exact ⟨h1, h2, h3, h5, h4, h6⟩
  · rintro ⟨h1, h2, h3, h5, h4, h6⟩; exact ⟨h1, h2, h3, h4, h5, h6⟩
end Go.Proofs.YtgbmjlajheeciaaDoor
