/-
  Any two tokens: the document's Same, and the program's.
-/
import Derived.Deep.RegionHeld3
import Derived.Test.YtgbmjlajheeciaaDoorZPdM
import Derived.Test.YtgbmjlajheeciaaDoorZTkN
namespace Go.Proofs.YtgbmjlajheeciaaDoor
set_option linter.unusedSimpArgs false
set_option linter.unusedVariables false
open Go.RowKit
set_option linter.unusedVariables false

theorem strOf_inj' {l l' : List Int} (h : ∀ c ∈ l, 0 ≤ c ∧ c < 256) (h' : ∀ c ∈ l', 0 ≤ c ∧ c < 256) (e : strOf l = strOf l') : l = l' := by
  have hb := byteCells_strOf l h
  rw [e, byteCells_strOf l' h'] at hb
  unfold bcells at hb
  exact (List.map_inj_right (fun a b hab => by injection hab)).1 hb.symm
theorem str_ne {l l' : List Int} (h : ∀ c ∈ l, 0 ≤ c ∧ c < 256) (h' : ∀ c ∈ l', 0 ≤ c ∧ c < 256) (e : l ≠ l') : ¬ (strOf l).toList = (strOf l').toList ∧ ((strOf l).toList == (strOf l').toList) = false := by
  have h1 : ¬ strOf l = strOf l' := fun e' => e (strOf_inj' h h' e')
  have h2 : ¬ (strOf l).toList = (strOf l').toList := fun e' => h1 ((bytes_inj _ _).1 e')
  exact ⟨h2, beq_eq_false_iff_ne.2 h2⟩

set_option maxRecDepth 100000 in
set_option maxHeartbeats 2000000 in
theorem rsame_any {w : World} {t u : Tok} {a1 a2 b1 b2 : Option Addr} {n1 c1 n2 c2 m1 d1 m2 d2 : Nat} (r1 : TRange t) (r2 : TRange u) (h1 : RdTok w t a1 n1 a2 n2) (h2 : RdTok w u b1 m1 b2 m2) :
    Calls Tryd.prog 12 #[.agg #[.int .i64 t.kind, .int .u8 t.code, .int .u8 t.mark, .slice a1 n1 c1, .string (strOf t.inters), .slice a2 n2 c2], .agg #[.int .i64 u.kind, .int .u8 u.code, .int .u8 u.mark, .slice b1 m1 d1, .string (strOf u.inters), .slice b2 m2 d2]] w fun e w' => e = .returned (.bool (sameT t u)) ∧ Gr w w' := by
  obtain ⟨k, c, m, ps, l, d⟩ := t
  obtain ⟨k', c', m', ps', l', d'⟩ := u
  have i1 := r1.inters; have i2 := r2.inters; have j1 := r1.data; have j2 := r2.data
  clear r1 r2

  simp only at i1 i2 j1 j2 ⊢
  have hse : l = l' → strOf l = strOf l' := fun e => by rw [e]
  have hsn := str_ne i1 i2
  obtain ⟨s, hs⟩ : ∃ s, s = strOf l := ⟨_, rfl⟩
  obtain ⟨s', hs'⟩ : ∃ s', s' = strOf l' := ⟨_, rfl⟩
  have hg := ((Gr.refl w).alloc (.cells #[.int .i64 k, .int .u8 c, .int .u8 m, .slice a1 n1 c1, .string s, .slice a2 n2 c2] 25)).alloc (.cells #[.int .i64 k', .int .u8 c', .int .u8 m', .slice b1 m1 d1, .string s', .slice b2 m2 d2] 25)
  rw [← hs, ← hs'] at hse hsn ⊢
  have hx := same_ints_rd (c1 := c1) (c2 := d1) (h1.params.gr hg) (h2.params.gr hg) h1.small.1
  have hcv := fun w' hg' => And.intro (conv_rd (cap := c2) (h1.data.gr (w' := w') (hg.trans hg'))) (conv_rd (cap := d2) (h2.data.gr (w' := w') (hg.trans hg')))
  clear h1 h2 hs hs' i1 i2
  by_cases e0 : k = k'
  case neg =>
    have HN := Lib.hid (show sameT ⟨k, c, m, ps, l, d⟩ ⟨k', c', m', ps', l', d'⟩ = false by simp [sameT, e0])
    have hb : (k == k') = false := by simpa using e0
    clear hx hse hsn hcv e0
    go_enter Tryd.func12, Tryd.ntmps12
    go_wp2_with fail
    go_ret
    exact ⟨by rw [HN.out]; rfl, hg⟩
  subst e0
  by_cases e1 : c = c'
  case neg =>
    have HN := Lib.hid (show sameT ⟨k, c, m, ps, l, d⟩ ⟨k, c', m', ps', l', d'⟩ = false by simp [sameT, e1])
    have hb : (c == c') = false := by simpa using e1
    clear hx hse hsn hcv e1
    go_enter Tryd.func12, Tryd.ntmps12
    go_wp2_with fail
    go_ret
    exact ⟨by rw [HN.out]; rfl, hg⟩
  subst e1
  by_cases e2 : m = m'
  case neg =>
    have HN := Lib.hid (show sameT ⟨k, c, m, ps, l, d⟩ ⟨k, c, m', ps', l', d'⟩ = false by simp [sameT, e2])
    have hb : (m == m') = false := by simpa using e2
    clear hx hse hsn hcv e2
    go_enter Tryd.func12, Tryd.ntmps12
    go_wp2_with fail
    go_ret
    exact ⟨by rw [HN.out]; rfl, hg⟩
  subst e2
  by_cases e3 : l = l'
  case neg =>
    have HN := Lib.hid (show sameT ⟨k, c, m, ps, l, d⟩ ⟨k, c, m, ps', l', d'⟩ = false by simp [sameT, e3])
    obtain ⟨p1, p2⟩ := hsn e3
    clear hx hse hsn hcv e3
    go_enter Tryd.func12, Tryd.ntmps12
    go_wp2_with fail
    go_ret
    exact ⟨by rw [HN.out]; rfl, hg⟩
  have hs0 := hse e3
  clear hse hsn
  subst e3
  subst hs0
  by_cases e4 : ps = ps'
  case neg =>
    have HN := Lib.hid (show sameT ⟨k, c, m, ps, l, d⟩ ⟨k, c, m, ps', l, d'⟩ = false by simp [sameT, e4])
    have hb : (ps == ps') = false := by simpa using e4
    rw [hb] at hx
    clear hcv e4 hb
    go_enter Tryd.func12, Tryd.ntmps12
    go_wp2_with (go_at_call 19; (with_reducible refine hx.mono ?_); rintro e w1 ⟨rfl, hg1⟩; obtain ⟨f1, f2, f3⟩ := hg1.facts; have s1 : w.heap.size < w1.heap.size := (by simp at f3; omega); have s2 : w.heap.size + 1 < w1.heap.size := (by simp at f3; omega))
    go_ret
    exact ⟨by rw [HN.out]; rfl, hg.trans hg1⟩
  subst e4
  rw [beq_self_eq_true] at hx
  have hN : ¬ d = d' → ¬ (strOf d).toList = (strOf d').toList ∧ ((strOf d).toList == (strOf d').toList) = false := str_ne j1 j2
  have hY : d = d' → strOf d = strOf d' := fun e => by rw [e]
  obtain ⟨x, hxd⟩ : ∃ x, x = strOf d := ⟨_, rfl⟩
  obtain ⟨x', hxd'⟩ : ∃ x', x' = strOf d' := ⟨_, rfl⟩
  rw [← hxd, ← hxd'] at hN hY hcv
  have HC := Lib.hid hcv
  clear hxd hxd' hcv j1 j2
  by_cases e5 : d = d'
  · have hY := hY e5
    subst hY
    have HN := Lib.hid (show sameT ⟨k, c, m, ps, l, d⟩ ⟨k, c, m, ps, l, d'⟩ = true by simp [sameT, e5])
    clear hN e5
    go_enter Tryd.func12, Tryd.ntmps12
    go_wp2_with (go_at_call 19; (with_reducible refine hx.mono ?_); rintro e w1 ⟨rfl, hg1⟩; obtain ⟨q1, q2⟩ := HC.out _ hg1; obtain ⟨f1, f2, f3⟩ := hg1.facts; have s1 : w.heap.size < w1.heap.size := (by simp at f3; omega); have s2 : w.heap.size + 1 < w1.heap.size := (by simp at f3; omega))
    go_ret
    exact ⟨by rw [HN.out]; rfl, hg.trans hg1⟩
  · obtain ⟨p1, p2⟩ := hN e5
    have HN := Lib.hid (show sameT ⟨k, c, m, ps, l, d⟩ ⟨k, c, m, ps, l, d'⟩ = false by simp [sameT, e5])
    clear hN hY e5
    go_enter Tryd.func12, Tryd.ntmps12
    go_wp2_with (go_at_call 19; (with_reducible refine hx.mono ?_); rintro e w1 ⟨rfl, hg1⟩; obtain ⟨q1, q2⟩ := HC.out _ hg1; obtain ⟨f1, f2, f3⟩ := hg1.facts; have s1 : w.heap.size < w1.heap.size := (by simp at f3; omega); have s2 : w.heap.size + 1 < w1.heap.size := (by simp at f3; omega))
    go_ret
    exact ⟨by rw [HN.out]; rfl, hg.trans hg1⟩

end Go.Proofs.YtgbmjlajheeciaaDoor
