/-
  Any two tokens: the document's Same, and the program's.
-/
import Derived.Deep.RegionHeld3
import Derived.Test.YtgbmjlajheeciaaDoorZPdD
import Derived.Test.YtgbmjlajheeciaaDoorZTkN
namespace Go.Proofs.YtgbmjlajheeciaaDoor
set_option linter.unusedSimpArgs false
set_option linter.unusedVariables false
open Go.RowKit
set_option linter.unusedVariables false

theorem strOf_inj' {l l' : List Int} (h : ∀ c ∈ l, 0 ≤ c ∧ c < 256) (h' : ∀ c ∈ l', 0 ≤ c ∧ c < 256) (e : strOf l = strOf l') : l = l' := by
  have hb := byteCells_strOf l h
  rw [e, byteCells_strOf l' h'] at hb
  unfold bcells at hb
  exact (List.map_inj_right (fun a b hab => by injection hab)).1 hb.symm
theorem str_ne {l l' : List Int} (h : ∀ c ∈ l, 0 ≤ c ∧ c < 256) (h' : ∀ c ∈ l', 0 ≤ c ∧ c < 256) (e : l ≠ l') : ¬ (strOf l).toList = (strOf l').toList ∧ ((strOf l).toList == (strOf l').toList) = false := by
  have h1 : ¬ strOf l = strOf l' := fun e' => e (strOf_inj' h h' e')
  have h2 : ¬ (strOf l).toList = (strOf l').toList := fun e' => h1 ((bytes_inj _ _).1 e')
  exact ⟨h2, beq_eq_false_iff_ne.2 h2⟩

set_option maxRecDepth 100000 in
set_option maxHeartbeats 2000000 in
theorem rsame_any {w : World} {t u : Tok} {a1 a2 b1 b2 : Option Addr} {n1 c1 n2 c2 m1 d1 m2 d2 : Nat} (r1 : TRange t) (r2 : TRange u) (h1 : RdTok w t a1 n1 a2 n2) (h2 : RdTok w u b1 m1 b2 m2) :
    Calls Tryd.prog 12 #[.agg #[.int .i64 t.kind, .int .u8 t.code, .int .u8 t.mark, .slice a1 n1 c1, .string (strOf t.inters), .slice a2 n2 c2], .agg #[.int .i64 u.kind, .int .u8 u.code, .int .u8 u.mark, .slice b1 m1 d1, .string (strOf u.inters), .slice b2 m2 d2]] w fun e w' => e = .returned (.bool (sameT t u)) ∧ Gr w w' := by
  obtain ⟨k, c, m, ps, l, d⟩ := t
  obtain ⟨k', c', m', ps', l', d'⟩ := u
  have i1 := r1.inters; have i2 := r2.inters; have j1 := r1.data; have j2 := r2.data
  clear r1 r2

  simp only at i1 i2 j1 j2 ⊢
  have hse : l = l' → strOf l = strOf l' := fun e => by rw [e]
  have hsn := str_ne i1 i2
  obtain ⟨s, hs⟩ : ∃ s, s = strOf l := ⟨_, rfl⟩
  obtain ⟨s', hs'⟩ : ∃ s', s' = strOf l' := ⟨_, rfl⟩
  have hg := ((Gr.refl w).alloc (.cells #[.int .i64 k, .int .u8 c, .int .u8 m, .slice a1 n1 c1, .string s, .slice a2 n2 c2] 25)).alloc (.cells #[.int .i64 k', .int .u8 c', .int .u8 m', .slice b1 m1 d1, .string s', .slice b2 m2 d2] 25)
  rw [← hs, ← hs'] at hse hsn ⊢
  have hx := same_ints_rd (c1 := c1) (c2 := d1) (h1.params.gr hg) (h2.params.gr hg) h1.small.1
  have hcv := fun w' hg' => And.intro (conv_rd (cap := c2) (h1.data.gr (w' := w') (hg.trans hg'))) (conv_rd (cap := d2) (h2.data.gr (w' := w') (hg.trans hg')))
  clear h1 h2 hs hs' i1 i2
  by_cases e0 : k = k'
  case neg =>
    have HN := Lib.hid (show sameT ⟨k, c, m, ps, l, d⟩ ⟨k', c', m', ps', l', d'⟩ = false by simp [sameT, e0])
    have hb : (k == k') = false := by simpa using e0
    clear hx hse hsn hcv e0
    go_enter Tryd.func12, Tryd.ntmps12
    go_wp2_with fail
    go_ret
    exact ⟨by rw [HN.out]; rfl, hg⟩
  subst e0
  by_cases e1 : c = c'
  case neg =>
    have HN := Lib.hid (show sameT ⟨k, c, m, ps, l, d⟩ ⟨k, c', m', ps', l', d'⟩ = false by simp [sameT, e1])
    have hb : (c == c') = false := by simpa using e1
    clear hx hse hsn hcv e1
    go_enter Tryd.func12, Tryd.ntmps12
    go_wp2_with fail
    go_ret
    exact ⟨by rw [HN.out]; rfl, hg⟩
  subst e1
  by_cases e2 : m = m'
  case neg =>
    have HN := Lib.hid (show sameT ⟨k, c, m, ps, l, d⟩ ⟨k, c, m', ps', l', d'⟩ = false by simp [sameT, e2])
    have hb : (m == m') = false := by simpa using e2
    clear hx hse hsn hcv e2
    go_enter Tryd.func12, Tryd.ntmps12
    go_wp2_with fail
    go_ret
    exact ⟨by rw [HN.out]; rfl, hg⟩
  subst e2
  by_cases e3 : l = l'
  case neg =>
    have HN := Lib.hid (show sameT ⟨k, c, m, ps, l, d⟩ ⟨k, c, m, ps', l', d'⟩ = false by simp [sameT, e3])
    obtain ⟨p1, p2⟩ := hsn e3
    clear hx hse hsn hcv e3
    go_enter Tryd.func12, Tryd.ntmps12
    go_wp2_with fail
    go_ret
    exact ⟨by rw [HN.out]; rfl, hg⟩
  have hs0 := hse e3
  clear hse hsn
  subst e3
  subst hs0
  by_cases e4 : ps = ps'
  case neg =>
    have HN := Lib.hid (show sameT ⟨k, c, m, ps, l, d⟩ ⟨k, c, m, ps', l, d'⟩ = false by simp [sameT, e4])
    have hb : (ps == ps') = false := by simpa using e4
    rw [hb] at hx
    clear hcv e4 hb
    go_enter Tryd.func12, Tryd.ntmps12
    go_wp2_with (go_at_call 19; (with_reducible refine hx.mono ?_); rintro e w1 ⟨rfl, hg1⟩; obtain ⟨f1, f2, f3⟩ := hg1.facts; have s1 : w.heap.size < w1.heap.size := (by simp at f3; omega); have s2 : w.heap.size + 1 < w1.heap.size := (by simp at f3; omega))
    go_ret
    exact ⟨by rw [HN.out]; rfl, hg.trans hg1⟩
  subst e4
  rw [beq_self_eq_true] at hx
  have hN : ¬ d = d' → ¬ (strOf d).toList = (strOf d').toList ∧ ((strOf d).toList == (strOf d').toList) = false := str_ne j1 j2
  have hY : d = d' → strOf d = strOf d' := fun e => by rw [e]
  obtain ⟨x, hxd⟩ : ∃ x, x = strOf d := ⟨_, rfl⟩
  obtain ⟨x', hxd'⟩ : ∃ x', x' = strOf d' := ⟨_, rfl⟩
  rw [← hxd, ← hxd'] at hN hY hcv
  have HC := Lib.hid hcv
  clear hxd hxd' hcv j1 j2
  by_cases e5 : d = d'
  · have hY := hY e5
    subst hY
    have HN := Lib.hid (show sameT ⟨k, c, m, ps, l, d⟩ ⟨k, c, m, ps, l, d'⟩ = true by simp [sameT, e5])
    clear hN e5
    go_enter Tryd.func12, Tryd.ntmps12
    go_wp2_with (go_at_call 19; (with_reducible refine hx.mono ?_); rintro e w1 ⟨rfl, hg1⟩; obtain ⟨q1, q2⟩ := HC.out _ hg1; obtain ⟨f1, f2, f3⟩ := hg1.facts; have s1 : w.heap.size < w1.heap.size := (by simp at f3; omega); have s2 : w.heap.size + 1 < w1.heap.size := (by simp at f3; omega))
    go_ret
    exact ⟨by rw [HN.out]; rfl, hg.trans hg1⟩
  · obtain ⟨p1, p2⟩ := hN e5
    have HN := Lib.hid (show sameT ⟨k, c, m, ps, l, d⟩ ⟨k, c, m, ps, l, d'⟩ = false by simp [sameT, e5])
    clear hN hY e5
    go_enter Tryd.func12, Tryd.ntmps12
    go_wp2_with (go_at_call 19; (with_reducible refine hx.mono ?_); rintro e w1 ⟨rfl, hg1⟩; obtain ⟨q1, q2⟩ := HC.out _ hg1; obtain ⟨f1, f2, f3⟩ := hg1.facts; have s1 : w.heap.size < w1.heap.size := (by simp at f3; omega); have s2 : w.heap.size + 1 < w1.heap.size := (by simp at f3; omega))
    go_ret
    exact ⟨by rw [HN.out]; rfl, hg.trans hg1⟩

set_option maxRecDepth 100000 in
set_option maxHeartbeats 1000000 in
/-- Two rows of numbers, wherever they lie: slices.Equal. -/
theorem equal_ints_rd {w : World} {a1 a2 : Option Addr} {n1 c1 n2 c2 : Nat} {l1 l2 : List Int} (h1 : Rd w a1 n1 (icells l1)) (h2 : Rd w a2 n2 (icells l2)) (hb : n1 ≤ 9223372036854775807) :
    Calls Tryd.prog 39 #[.slice a1 n1 c1, .slice a2 n2 c2] w fun e w' => e = .returned (.bool (l1 == l2)) ∧ ∃ n, w' = w.drewN n := by
  have hl1 : l1.length = n1 := by rw [← icells_len]; exact h1.1
  have hl2 : l2.length = n2 := by rw [← icells_len]; exact h2.1
  by_cases hn : n1 = n2
  · subst hn
    have HL1 := Lib.hid hl1
    have HL2 := Lib.hid hl2
    clear hl1 hl2
    go_enter Tryd.func39, Tryd.ntmps39
    go_wp2_with fail
    go_loopw [13] (fun i wr => ∃ k : Nat, k ≤ n1 ∧ i = .int .i64 k ∧ l1.take k = l2.take k ∧ ∃ n, wr = w.drewN n) (fun i _ => n1 - (intOf i).toNat)
    case atStart => exact ⟨0, Nat.zero_le _, rfl, rfl, 0, rfl⟩
    case round =>
      obtain ⟨k, hk, rfl, htk, nn, rfl⟩ := hrel
      have hg := (Gr.refl w).drewN nn
      by_cases hlt : k < n1
      · obtain ⟨g1, p1, u1, rfl, hu1, hc1, _⟩ := h1.at_ hlt
        obtain ⟨g2, p2, u2, rfl, hu2, hc2, _⟩ := h2.at_ hlt
        obtain ⟨x, hx, rfl⟩ := icells_get hu1
        obtain ⟨y, hy, rfl⟩ := icells_get hu2
        have hkn : (k : Int) < (n1 : Int) := by omega
        have k0 : (0 : Int) ≤ (k : Int) := by omega
        by_cases hxy : x = y
        · subst hxy
          have HT := Lib.hid (take_eq_succ htk hx hy)
          clear hx hy htk h1 h2 hu1 hu2
          go_wp2_with fail
          go_quiet (fail)
          go_wp2_with fail
          go_roundw
          case rel => exact ⟨k + 1, by omega, by go_num, HT.out, _, rfl⟩
          case measure => simp [intOf]; omega
        · have HN := Lib.hid (show (l1 == l2) = false by
            rw [beq_eq_false_iff_ne]; intro e; rw [e, hy] at hx; injection hx with hx; exact hxy hx.symm)
          have hb : (x != y) = true := by simpa using hxy
          clear hx hy htk h1 h2 hu1 hu2
          go_wp2_with fail
          go_quiet (fail)
          go_wp2_with fail
          go_ret
          exact ⟨by rw [HN.out]; rfl, _, World.drewN_drewN _ _ _⟩
      · have hkn : ¬ (k : Int) < (n1 : Int) := by omega
        have HT := Lib.hid (show (l1 == l2) = true by
          rw [beq_iff_eq]
          rw [List.take_of_length_le (by have := HL1.out; omega), List.take_of_length_le (by have := HL2.out; omega)] at htk
          exact htk)
        clear h1 h2 htk
        go_wp2_with fail
        go_ret
        exact ⟨by rw [HT.out]; rfl, nn, rfl⟩
  · have HN := Lib.hid (show (l1 == l2) = false by
      rw [beq_eq_false_iff_ne]; intro e; rw [e] at hl1; omega)
    have hnn : ((n1 : Int) == (n2 : Int)) = false := by simp; omega
    have hnn2 : ((n1 : Int) != (n2 : Int)) = true := by simp; omega
    clear hl1 hl2 h1 h2
    go_enter Tryd.func39, Tryd.ntmps39
    go_wp2_with fail
    go_ret
    exact ⟨by rw [HN.out]; rfl, 0, rfl⟩

theorem equal_bytes_rd {w : World} {a1 a2 : Option Addr} {n1 c1 n2 c2 : Nat} {l1 l2 : List Int} (j1 : ∀ c ∈ l1, 0 ≤ c ∧ c < 256) (j2 : ∀ c ∈ l2, 0 ≤ c ∧ c < 256) (h1 : Rd w a1 n1 (bcells l1)) (h2 : Rd w a2 n2 (bcells l2)) :
    Calls Tryd.prog 40 #[.slice a1 n1 c1, .slice a2 n2 c2] w fun e w' => e = .returned (.bool (l1 == l2)) ∧ w = w' := by
  have q1 := conv_rd (cap := c1) h1
  have q2 := conv_rd (cap := c2) h2
  have hN := str_ne j1 j2
  have hY : l1 = l2 → strOf l1 = strOf l2 := fun e => by rw [e]
  obtain ⟨x, hxd⟩ : ∃ x, x = strOf l1 := ⟨_, rfl⟩
  obtain ⟨x', hxd'⟩ : ∃ x', x' = strOf l2 := ⟨_, rfl⟩
  rw [← hxd] at q1
  rw [← hxd'] at q2
  rw [← hxd, ← hxd'] at hN hY
  clear h1 h2 hxd hxd' j1 j2
  by_cases e5 : l1 = l2
  · have hY := hY e5
    subst hY
    have HN := Lib.hid (show (l1 == l2) = true by simp [e5])
    clear hN e5
    go_enter Tryd.func40, Tryd.ntmps40
    go_wp2_with fail
    go_ret
    exact ⟨by rw [HN.out]; rfl, rfl⟩
  · obtain ⟨p1, p2⟩ := hN e5
    have HN := Lib.hid (show (l1 == l2) = false by simp [e5])
    clear hN hY e5
    go_enter Tryd.func40, Tryd.ntmps40
    go_wp2_with fail
    go_ret
    exact ⟨by rw [HN.out]; rfl, rfl⟩

set_option maxRecDepth 100000 in
set_option maxHeartbeats 2000000 in
theorem psame_any {w : World} {t u : Tok} {a1 a2 b1 b2 : Option Addr} {n1 c1 n2 c2 m1 d1 m2 d2 : Nat} (r1 : TRange t) (r2 : TRange u) (h1 : RdTok w t a1 n1 a2 n2) (h2 : RdTok w u b1 m1 b2 m2) :
    Calls Tryd.prog 18 #[.agg #[.int .i64 t.kind, .int .u8 t.code, .int .u8 t.mark, .slice a1 n1 c1, .string (strOf t.inters), .slice a2 n2 c2], .agg #[.int .i64 u.kind, .int .u8 u.code, .int .u8 u.mark, .slice b1 m1 d1, .string (strOf u.inters), .slice b2 m2 d2]] w fun e w' => e = .returned (.bool (sameT t u)) ∧ Gr w w' := by
  obtain ⟨k, c, m, ps, l, d⟩ := t
  obtain ⟨k', c', m', ps', l', d'⟩ := u
  have i1 := r1.inters; have i2 := r2.inters; have j1 := r1.data; have j2 := r2.data
  clear r1 r2

  simp only at i1 i2 j1 j2 ⊢
  have hse : l = l' → strOf l = strOf l' := fun e => by rw [e]
  have hsn := str_ne i1 i2
  obtain ⟨s, hs⟩ : ∃ s, s = strOf l := ⟨_, rfl⟩
  obtain ⟨s', hs'⟩ : ∃ s', s' = strOf l' := ⟨_, rfl⟩
  have hg := ((Gr.refl w).alloc (.cells #[.int .i64 k, .int .u8 c, .int .u8 m, .slice a1 n1 c1, .string s, .slice a2 n2 c2] 27)).alloc (.cells #[.int .i64 k', .int .u8 c', .int .u8 m', .slice b1 m1 d1, .string s', .slice b2 m2 d2] 27)
  rw [← hs, ← hs'] at hse hsn ⊢
  have hx := equal_ints_rd (c1 := c1) (c2 := d1) (h1.params.gr hg) (h2.params.gr hg) h1.small.1
  have hcv := fun w' hg' => equal_bytes_rd (c1 := c2) (c2 := d2) j1 j2 (h1.data.gr (w' := w') (hg.trans hg')) (h2.data.gr (w' := w') (hg.trans hg'))

  clear h1 h2 hs hs' i1 i2
  by_cases e0 : k = k'
  case neg =>
    have HN := Lib.hid (show sameT ⟨k, c, m, ps, l, d⟩ ⟨k', c', m', ps', l', d'⟩ = false by simp [sameT, e0])
    have hb : (k == k') = false := by simpa using e0
    clear hx hse hsn hcv e0
    go_enter Tryd.func18, Tryd.ntmps18
    go_wp2_with fail
    go_ret
    exact ⟨by rw [HN.out]; rfl, hg⟩
  subst e0
  by_cases e1 : c = c'
  case neg =>
    have HN := Lib.hid (show sameT ⟨k, c, m, ps, l, d⟩ ⟨k, c', m', ps', l', d'⟩ = false by simp [sameT, e1])
    have hb : (c == c') = false := by simpa using e1
    clear hx hse hsn hcv e1
    go_enter Tryd.func18, Tryd.ntmps18
    go_wp2_with fail
    go_ret
    exact ⟨by rw [HN.out]; rfl, hg⟩
  subst e1
  by_cases e2 : m = m'
  case neg =>
    have HN := Lib.hid (show sameT ⟨k, c, m, ps, l, d⟩ ⟨k, c, m', ps', l', d'⟩ = false by simp [sameT, e2])
    have hb : (m == m') = false := by simpa using e2
    clear hx hse hsn hcv e2
    go_enter Tryd.func18, Tryd.ntmps18
    go_wp2_with fail
    go_ret
    exact ⟨by rw [HN.out]; rfl, hg⟩
  subst e2
  by_cases e3 : l = l'
  case neg =>
    have HN := Lib.hid (show sameT ⟨k, c, m, ps, l, d⟩ ⟨k, c, m, ps', l', d'⟩ = false by simp [sameT, e3])
    obtain ⟨p1, p2⟩ := hsn e3
    clear hx hse hsn hcv e3
    go_enter Tryd.func18, Tryd.ntmps18
    go_wp2_with fail
    go_ret
    exact ⟨by rw [HN.out]; rfl, hg⟩
  have hs0 := hse e3
  clear hse hsn
  subst e3
  subst hs0
  by_cases e4 : ps = ps'
  case neg =>
    have HN := Lib.hid (show sameT ⟨k, c, m, ps, l, d⟩ ⟨k, c, m, ps', l, d'⟩ = false by simp [sameT, e4])
    have hb : (ps == ps') = false := by simpa using e4
    rw [hb] at hx
    clear hcv e4 hb
    go_enter Tryd.func18, Tryd.ntmps18
    go_wp2_with (go_at_call 39; (with_reducible refine hx.mono ?_); rintro e w1 ⟨rfl, nn, rfl⟩)
    go_ret
    exact ⟨by rw [HN.out]; rfl, hg.drewN nn⟩
  subst e4
  rw [beq_self_eq_true] at hx
  have HC := Lib.hid hcv
  clear hcv j1 j2
  obtain ⟨z, hz⟩ : ∃ z, z = (d == d') := ⟨_, rfl⟩
  have HN := Lib.hid (show sameT ⟨k, c, m, ps, l, d⟩ ⟨k, c, m, ps, l, d'⟩ = z by rw [hz]; simp [sameT])
  rw [← hz] at HC
  clear hz
  go_enter Tryd.func18, Tryd.ntmps18
  go_wp2_with (first | (go_at_call 39; (with_reducible refine hx.mono ?_); rintro e w1 ⟨rfl, nn, rfl⟩) | (go_at_call 40; (with_reducible refine (HC.out _ ((Gr.refl _).drewN nn)).mono ?_); rintro e w2 ⟨rfl, rfl⟩))
  go_ret
  exact ⟨by rw [HN.out]; rfl, hg.drewN nn⟩
end Go.Proofs.YtgbmjlajheeciaaDoor
