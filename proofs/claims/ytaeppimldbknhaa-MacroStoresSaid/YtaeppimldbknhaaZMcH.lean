/-
  A repeat in a macro's text; a piece, whatever it is.
-/
import Derived.Test.YtaeppimldbknhaaZMcG
namespace Go.Proofs.Ytaeppimldbknhaa
set_option linter.unusedSimpArgs false
set_option linter.unusedVariables false
open Go.RowKit
set_option linter.unusedVariables false

theorem semR_len1 (l : List UInt8) : (semR l).1.length ≤ l.length := by
  unfold semR
  exact (List.takeWhile_prefix (p := fun x : UInt8 => decide (x ≠ 59)) (l := l)).length_le

set_option maxRecDepth 100000 in
set_option maxHeartbeats 2000000 in
theorem piece_bang_any (r : List UInt8) (w : World) (hl : r.length ≤ 999999) (hm : MaxOk w) : Calls Try.prog 21 #[.string (bsl (33 :: r))] w fun e w' => PcR (33 :: r) e ∧ Gr w w' := by
  have hp := piece_bang r
  have hsz : (bsl (33 :: r)).size = r.length + 1 := by rw [bsl_size]; rfl
  have hg0 : ∀ h : 0 < (bsl (33 :: r)).size, (bsl (33 :: r))[0]'h = 33 := fun h => by rw [bsl_get h]; rfl
  have hsl : (bsl (33 :: r)).extract 1 (bsl (33 :: r)).size = bsl r := by rw [bsl_extract, hsz]; simp
  have hcnt := fun w => count_any r w (by omega)
  have hq1 := cntR_len 0 r
  obtain ⟨n, hn⟩ : ∃ n, n = max (cntR 0 r).1 1 := ⟨_, rfl⟩
  obtain ⟨n0, hn0⟩ : ∃ n, n = (cntR 0 r).1 := ⟨_, rfl⟩
  obtain ⟨q, hq⟩ : ∃ q, q = (cntR 0 r).2 := ⟨_, rfl⟩
  rw [← hn, ← hq] at hcnt
  rw [← hn0, ← hq] at hp
  rw [← hq] at hq1
  rw [← hn0] at hn
  obtain ⟨rs, hrs⟩ : ∃ t, t = bsl r := ⟨_, rfl⟩
  obtain ⟨t, ht⟩ : ∃ t, t = bsl (33 :: r) := ⟨_, rfl⟩
  rw [← ht] at hsz hg0 hsl ⊢
  rw [← hrs] at hsl hcnt
  have HT := Lib.hid ht; have HP := Lib.hid hp; have HRS := Lib.hid hrs; have HN := Lib.hid hn
  have hpos : 0 < t.size := by omega
  have hg := hg0 hpos
  have h33 : ((UInt8.toNat 33 : Int) != 33) = false := by decide
  have hge1 : 1 ≤ t.size := by omega
  clear ht hp hg0 hsz hrs hn0 hq hn
  by_cases hu : ∃ u, q = 59 :: u
  · obtain ⟨u, rfl⟩ := hu
    have h1 := semR_len1 u
    simp only [List.length_cons] at hq1
    have hcp := fun w => cutp_yes u w
    have hct := fun w (h : MaxOk w) => cut_any u w (by omega) h
    have hfr := fun w => fromHex_any (semR u).1 w (by omega)
    obtain ⟨bo, hbo⟩ : ∃ b, b = (Lib.cut u [59]).2.2 := ⟨_, rfl⟩
    rw [← hbo] at hct
    clear hbo
    obtain ⟨x1, hx1⟩ : ∃ x, x = (semR u).1 := ⟨_, rfl⟩
    obtain ⟨x2, hx2⟩ : ∃ x, x = (semR u).2 := ⟨_, rfl⟩
    rw [← hx1, ← hx2] at hct
    rw [← hx1] at hfr h1
    rcases hx : hexR x1 with _ | o
    · rw [fromR_none hx] at hfr
      have HX := Lib.hid hx; have HX1 := Lib.hid hx1; have HX2 := Lib.hid hx2
      clear hx hx1 hx2
      go_enter Try.func21, Try.ntmps21
      go_wp2_with (first
        | (go_at_call 41; (with_reducible refine (hcnt _).mono ?_); rintro e w1 ⟨rfl, hg1⟩; have hm1 := hm.gr hg1)
        | (go_at_call 42; (with_reducible refine (hcp _).mono ?_); rintro e w2 ⟨rfl, rfl⟩)
        | (go_at_call 43; (with_reducible refine (hct _ hm1).mono ?_); rintro e w3 ⟨rfl, hg3⟩)
        | (go_at_call 40; (with_reducible refine (hfr _).mono ?_); rintro e w4 ⟨rfl, hg4⟩))
      refine bodyPost_ret (v := .tuple #[.string (bsl []), .int .i64 (n : Int), .string (bsl x2), .bool false]) (by simp [results, Try.results21, go_sem]) rfl ⟨PcR.bad (by rw [HP.out]; simp only [bangR, if_true]; rw [← HX1.out, HX.out]; rfl) _ _ _, (hg1.trans hg3).trans hg4⟩
    · rw [fromR_some hx] at hfr
      have HX := Lib.hid hx; have HX1 := Lib.hid hx1; have HX2 := Lib.hid hx2
      clear hx hx1 hx2
      go_enter Try.func21, Try.ntmps21
      go_wp2_with (first
        | (go_at_call 41; (with_reducible refine (hcnt _).mono ?_); rintro e w1 ⟨rfl, hg1⟩; have hm1 := hm.gr hg1)
        | (go_at_call 42; (with_reducible refine (hcp _).mono ?_); rintro e w2 ⟨rfl, rfl⟩)
        | (go_at_call 43; (with_reducible refine (hct _ hm1).mono ?_); rintro e w3 ⟨rfl, hg3⟩)
        | (go_at_call 40; (with_reducible refine (hfr _).mono ?_); rintro e w4 ⟨rfl, hg4⟩))
      refine bodyPost_ret (v := .tuple #[.string (bsl o), .int .i64 (n : Int), .string (bsl x2), .bool true]) (by simp [results, Try.results21, go_sem]) rfl ⟨PcR.ok (by rw [HP.out]; simp only [bangR, if_true]; rw [← HX1.out, HX.out, ← HX2.out, HN.out]; rfl), (hg1.trans hg3).trans hg4⟩
  · have hq2 : q.head? ≠ some 59 := by
      intro h
      match q, h with
      | c :: u, h => simp at h; subst h; exact hu ⟨u, rfl⟩
    have hbad : bangR n0 q = none := by
      match q, hu with
      | [], _ => rfl
      | c :: u, hu =>
        simp only [bangR]
        rw [if_neg (fun h => hu ⟨u, by rw [h]⟩)]
    have h1 := semR_len1 q
    have hcp := fun w => cutp_no q w hq2
    have hct := fun w (h : MaxOk w) => cut_any q w (by omega) h
    have hfr := fun w => fromHex_any (semR q).1 w (by omega)
    obtain ⟨bo, hbo⟩ : ∃ b, b = (Lib.cut q [59]).2.2 := ⟨_, rfl⟩
    rw [← hbo] at hct
    obtain ⟨x1, hx1⟩ : ∃ x, x = (semR q).1 := ⟨_, rfl⟩
    obtain ⟨x2, hx2⟩ : ∃ x, x = (semR q).2 := ⟨_, rfl⟩
    rw [← hx1, ← hx2] at hct
    rw [← hx1] at hfr
    obtain ⟨⟨o1, o2⟩, ho⟩ : ∃ o, o = fromR x1 := ⟨_, rfl⟩
    rw [← ho] at hfr
    have HB := Lib.hid hbad
    clear hbo hx1 hx2 ho hbad hq2 hu
    go_enter Try.func21, Try.ntmps21
    go_wp2_with (first
      | (go_at_call 41; (with_reducible refine (hcnt _).mono ?_); rintro e w1 ⟨rfl, hg1⟩; have hm1 := hm.gr hg1)
      | (go_at_call 42; (with_reducible refine (hcp _).mono ?_); rintro e w2 ⟨rfl, rfl⟩)
      | (go_at_call 43; (with_reducible refine (hct _ hm1).mono ?_); rintro e w3 ⟨rfl, hg3⟩)
      | (go_at_call 40; (with_reducible refine (hfr _).mono ?_); rintro e w4 ⟨rfl, hg4⟩))
    refine bodyPost_ret (v := .tuple #[.string (bsl o1), .int .i64 (n : Int), .string (bsl x2), .bool false]) (by simp [results, Try.results21, go_sem]) rfl ⟨PcR.bad (by rw [HP.out, HB.out]) _ _ _, (hg1.trans hg3).trans hg4⟩

/-- A piece at the beginning of a text. -/
theorem piece_any (l : List UInt8) (w : World) (h0 : l ≠ []) (hl : l.length ≤ 1000000) (hm : MaxOk w) : Calls Try.prog 21 #[.string (bsl l)] w fun e w' => PcR l e ∧ Gr w w' := by
  match l, h0 with
  | c :: r, _ =>
    simp only [List.length_cons] at hl
    by_cases hc : c = 33
    · subst hc; exact piece_bang_any r w (by omega) hm
    · exact piece_two_any c r w (by omega) hc
end Go.Proofs.Ytaeppimldbknhaa
