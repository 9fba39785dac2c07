/-
  The document's Check of any token: the whole.
-/
import Derived.Test.YtjfffkaifcajbaaDoorZTkL
namespace Go.Proofs.YtjfffkaifcajbaaDoor
set_option linter.unusedSimpArgs false
set_option linter.unusedVariables false
open Go.RowKit
set_option linter.unusedVariables false

/-- A token that came in: its numbers and bytes lie anywhere. -/
structure RdTok (w : World) (t : Tok) (a1 : Option Addr) (n1 : Nat) (a2 : Option Addr) (n2 : Nat) : Prop where
  params : Rd w a1 n1 (icells t.params)
  data : Rd w a2 n2 (bcells t.data)
  small : n1 ≤ 9223372036854775807 ∧ n2 ≤ 9223372036854775807 ∧ t.inters.length ≤ 9223372036854775807
theorem RdTok.gr {w w' : World} {t : Tok} {a1 a2 : Option Addr} {n1 n2 : Nat} (h : RdTok w t a1 n1 a2 n2) (hg : Gr w w') : RdTok w' t a1 n1 a2 n2 := ⟨h.params.gr hg, h.data.gr hg, h.small⟩
theorem RdTok.plen {w : World} {t : Tok} {a1 a2 : Option Addr} {n1 n2 : Nat} (h : RdTok w t a1 n1 a2 n2) : t.params.length = n1 := by simpa [icells] using h.params.1
theorem RdTok.dlen {w : World} {t : Tok} {a1 a2 : Option Addr} {n1 n2 : Nat} (h : RdTok w t a1 n1 a2 n2) : t.data.length = n2 := by simpa [bcells] using h.data.1

def RChecks (w : World) (k c m : Int) (s : ByteArray) (v1 v2 : Value) (r : Int) : Prop :=
  Calls Tryd.prog 44 #[.agg #[.int .i64 k, .int .u8 c, .int .u8 m, v1, .string s, v2]] w fun e w' => e = .returned (.int .i64 r) ∧ Gr w w'
set_option maxHeartbeats 1000000 in
set_option maxRecDepth 100000 in
theorem rcheck_kind {w : World} {k c m : Int} {s : ByteArray} {a1 a2 : Option Addr} {n1 c1 n2 c2 : Nat} (hk : k < 1 ∨ 9 < k) : RChecks w k c m s (.slice a1 n1 c1) (.slice a2 n2 c2) 1 := by
  unfold RChecks
  by_cases h1 : k < 1
  · clear hk
    go_enter Tryd.func44, Tryd.ntmps44
    go_wp2_with fail
    go_ret
    exact ⟨rfl, by (repeat (first | with_reducible exact Gr.refl _ | with_reducible assumption | with_reducible refine Gr.setCell ?_ (by simp; try omega) _ | with_reducible refine Gr.alloc ?_ _ | with_reducible refine Gr.drew ?_ | with_reducible refine Gr.drewN ?_ _ | with_reducible refine Gr.trans ?_ (by assumption)))⟩
  · have h2 : 9 < k := hk.resolve_left h1
    clear hk
    go_enter Tryd.func44, Tryd.ntmps44
    go_wp2_with fail
    go_ret
    exact ⟨rfl, by (repeat (first | with_reducible exact Gr.refl _ | with_reducible assumption | with_reducible refine Gr.setCell ?_ (by simp; try omega) _ | with_reducible refine Gr.alloc ?_ _ | with_reducible refine Gr.drew ?_ | with_reducible refine Gr.drewN ?_ _ | with_reducible refine Gr.trans ?_ (by assumption)))⟩
set_option maxHeartbeats 1000000 in
set_option maxRecDepth 100000 in
theorem rcheck_long {w : World} {k c m : Int} {s : ByteArray} {a1 a2 : Option Addr} {n1 c1 n2 c2 : Nat} (hk1 : 1 ≤ k) (hk9 : k ≤ 9) (hb : 3 < s.size ∨ 30 < n1 ∨ 4096 < n2) : RChecks w k c m s (.slice a1 n1 c1) (.slice a2 n2 c2) 2 := by
  unfold RChecks
  by_cases q1 : 3 < s.size
  · have q1' : decide (3 < (s.size : Int)) = true := by simp; omega
    clear hb q1
    go_enter Tryd.func44, Tryd.ntmps44
    go_wp2_with fail
    go_ret
    exact ⟨rfl, by (repeat (first | with_reducible exact Gr.refl _ | with_reducible assumption | with_reducible refine Gr.setCell ?_ (by simp; try omega) _ | with_reducible refine Gr.alloc ?_ _ | with_reducible refine Gr.drew ?_ | with_reducible refine Gr.drewN ?_ _ | with_reducible refine Gr.trans ?_ (by assumption)))⟩
  · have q1' : decide (3 < (s.size : Int)) = false := by simp; omega
    by_cases q2 : 30 < n1
    · have q2' : decide (30 < (n1 : Int)) = true := by simp; omega
      clear hb q1 q2
      go_enter Tryd.func44, Tryd.ntmps44
      go_wp2_with fail
      go_ret
      exact ⟨rfl, by (repeat (first | with_reducible exact Gr.refl _ | with_reducible assumption | with_reducible refine Gr.setCell ?_ (by simp; try omega) _ | with_reducible refine Gr.alloc ?_ _ | with_reducible refine Gr.drew ?_ | with_reducible refine Gr.drewN ?_ _ | with_reducible refine Gr.trans ?_ (by assumption)))⟩
    · have q2' : decide (30 < (n1 : Int)) = false := by simp; omega
      have q3' : decide (4096 < (n2 : Int)) = true := by simp; omega
      clear hb q1 q2
      go_enter Tryd.func44, Tryd.ntmps44
      go_wp2_with fail
      go_ret
      exact ⟨rfl, by (repeat (first | with_reducible exact Gr.refl _ | with_reducible assumption | with_reducible refine Gr.setCell ?_ (by simp; try omega) _ | with_reducible refine Gr.alloc ?_ _ | with_reducible refine Gr.drew ?_ | with_reducible refine Gr.drewN ?_ _ | with_reducible refine Gr.trans ?_ (by assumption)))⟩

/-- What Check says of a token that isn't too long, in the document's order. -/
def lateR (k c m : Int) (ps l d : List Int) : Int :=
  if ps.all (fun x => decide (0 ≤ x) && decide (x ≤ 65535)) = true then (if goodB ⟨k, c, m, ps, l, d⟩ = true then 0 else 3) else 2
set_option maxHeartbeats 2000000 in
set_option maxRecDepth 100000 in
theorem rcheck_late {w : World} {k c m : Int} {ps l d : List Int} {a1 a2 : Option Addr} {n1 c1 n2 c2 : Nat} (hk1 : 1 ≤ k) (hk9 : k ≤ 9) (hrl : ∀ c ∈ l, 0 ≤ c ∧ c < 256) (hrd : ∀ c ∈ d, 0 ≤ c ∧ c < 256) (h3 : l.length ≤ 3) (h30 : n1 ≤ 30) (h4 : n2 ≤ 4096)
    (hp : Rd w a1 n1 (icells ps)) (hd : Rd w a2 n2 (bcells d)) : RChecks w k c m (strOf l) (.slice a1 n1 c1) (.slice a2 n2 c2) (lateR k c m ps l d) := by
  have hpl : ps.length = n1 := by simpa [icells] using hp.1
  have hdl : d.length = n2 := by simpa [bcells] using hd.1
  have hsz := strOf_size' l
  have HS : Hid (∀ k (hk : k < (strOf l).size), ∃ x, l[k]? = some x ∧ (((strOf l)[k]'hk).toNat : Int) = x) := Lib.hid fun k hk => strOf_at hrl hk
  have hcd := fun w' => rcode_any k c m ⟨hk1, hk9⟩ l a1 a2 n1 c1 n2 c2 w'
  unfold RCode at hcd
  obtain ⟨B, hB⟩ : ∃ B, B = codeB k c (decide (l = [])) := ⟨_, rfl⟩
  rw [← hB] at hcd
  have HB := Lib.hid hB; clear hB
  obtain ⟨s, hsd⟩ : ∃ s, s = strOf l := ⟨_, rfl⟩
  unfold RChecks
  rw [← hsd] at hsz HS hcd ⊢
  have HSD := Lib.hid hsd
  have hs3 : s.size ≤ 3 := by omega
  have HSZ := Lib.hid hsz
  have HPL := Lib.hid hpl
  have HRD := Lib.hid hrd
  have HDL := Lib.hid hdl
  have hw0 := (Gr.refl w).alloc (.cells #[.int .i64 k, .int .u8 c, .int .u8 m, .slice a1 n1 c1, .string s, .slice a2 n2 c2] 76)
  have hb0 := heap_alloc_new w (.cells #[.int .i64 k, .int .u8 c, .int .u8 m, .slice a1 n1 c1, .string s, .slice a2 n2 c2] 76)
  have q1 : decide (3 < (s.size : Int)) = false := by simp; omega
  have q2 : decide (30 < (n1 : Int)) = false := by simp; omega
  have q3 : decide (4096 < (n2 : Int)) = false := by simp; omega
  have hp2 := hp.gr hw0
  have hd2 := hd.gr hw0
  clear hsd hsz hpl hdl hp hd hrl h3 hrd
  go_enter Tryd.func44, Tryd.ntmps44
  go_wp2_with fail
  go_loop [3] (fun i => ∃ j : Nat, j ≤ n1 ∧ i = .int .i64 j ∧ ∀ x ∈ ps.take j, 0 ≤ x ∧ x ≤ 65535) (fun i => n1 - (intOf i).toNat)
  case atStart => exact ⟨0, Nat.zero_le _, rfl, by simp⟩
  case round =>
    obtain ⟨j, hj, rfl, hall⟩ := hrel
    by_cases hlt : j < n1
    · obtain ⟨b, off, u, rfl, hu, hcell, hb⟩ := hp2.at_ hlt
      obtain ⟨x, hx, rfl⟩ : ∃ x, ps[j]? = some x ∧ u = .int .i64 x := by
        simp only [icells, List.getElem?_map] at hu
        rcases hx : ps[j]? with _ | x
        · rw [hx] at hu; cases hu
        · rw [hx] at hu; simp at hu; exact ⟨x, rfl, hu.symm⟩
      have hjn : (j : Int) < (n1 : Int) := by omega
      have HX := Lib.hid hx
      by_cases hxr : 0 ≤ x ∧ x ≤ 65535
      · have HA := Lib.hid (show ∀ y ∈ ps.take (j + 1), 0 ≤ y ∧ y ≤ 65535 by
          intro y hy
          rw [List.take_add_one, hx] at hy
          rcases List.mem_append.1 hy with hy | hy
          · exact hall y hy
          · simp at hy; subst hy; exact hxr)
        obtain ⟨x1, x2⟩ := hxr
        clear hall hu hx hp2 hd2 hcd
        go_wp2_with fail
        go_round
        case rel => exact ⟨j + 1, by omega, by go_num, HA.out⟩
        case measure => simp [intOf]; omega
      · have HN := Lib.hid (show lateR k c m ps l d = 2 by
          unfold lateR
          rw [if_neg]
          intro e
          have := List.all_eq_true.1 e x (List.mem_of_getElem? hx)
          simp at this
          exact hxr this)
        rcases (by omega : x < 0 ∨ (0 ≤ x ∧ 65535 < x)) with hy | ⟨hy, hz⟩
        all_goals
          clear hall hu hx hp2 hd2 hcd hxr
          go_wp2_with fail
          go_ret
          exact ⟨by rw [HN.out]; rfl, hw0⟩
    · have hjn : ¬ (j : Int) < (n1 : Int) := by omega
      have HP := Lib.hid (show ps.all (fun x => decide (0 ≤ x) && decide (x ≤ 65535)) = true by
        rw [List.take_of_length_le (by have := HPL.out; omega)] at hall
        exact List.all_eq_true.2 fun x hx => by have := hall x hx; simp; omega)
      clear hall hp2
      go_wp2_with fail
      go_loop [4] (fun i => ∃ i1 : Nat, i1 ≤ s.size ∧ i = .int .i64 i1 ∧ ∀ x ∈ l.take i1, interB x = true) (fun i => s.size - (intOf i).toNat)
      case atStart => exact ⟨0, Nat.zero_le _, rfl, by simp⟩
      case round =>
        obtain ⟨i1, hi1, rfl, hall⟩ := hrel
        by_cases hlt : i1 < s.size
        · obtain ⟨x, hx, hxs⟩ := HS.out i1 hlt
          have hjn1 : (i1 : Int) < (s.size : Int) := by omega
          by_cases hxr : 32 ≤ x ∧ x ≤ 47
          · have HA := Lib.hid (show ∀ y ∈ l.take (i1 + 1), interB y = true by
              intro y hy
              rw [List.take_add_one, hx] at hy
              rcases List.mem_append.1 hy with hy | hy
              · exact hall y hy
              · simp at hy; subst hy; exact decide_eq_true hxr)
            obtain ⟨x1, x2⟩ := hxr
            rw [← hxs] at x1 x2
            clear hall hx hxs hd2 hcd
            go_wp2_with fail
            go_round
            case rel => exact ⟨i1 + 1, by omega, by go_num, HA.out⟩
            case measure => simp [intOf]; omega
          · have HN := Lib.hid (show lateR k c m ps l d = 3 by
              unfold lateR
              rw [if_pos HP.out, if_neg]
              intro e
              simp only [goodB, Bool.and_eq_true] at e
              have := List.all_eq_true.1 e.2.2.1 x (List.mem_of_getElem? hx)
              exact hxr (of_decide_eq_true this))
            have hxr2 : (((s[i1]'hlt).toNat : Int) < 32) ∨ (32 ≤ ((s[i1]'hlt).toNat : Int) ∧ 47 < ((s[i1]'hlt).toNat : Int)) := by rw [hxs]; omega
            clear hall hx hxs hd2 hcd hxr
            rcases hxr2 with hy | ⟨hy, hz⟩
            all_goals
              go_wp2_with fail
              go_ret
              exact ⟨by rw [HN.out]; rfl, hw0⟩
        · have hjn1 : ¬ (i1 : Int) < (s.size : Int) := by omega
          have HL := Lib.hid (show l.all interB = true by
            rw [List.take_of_length_le (by have := HSZ.out; omega)] at hall
            exact List.all_eq_true.2 hall)
          clear hall
          go_wp2_with fail
          go_loop [5] (fun i => ∃ i2 : Nat, i2 ≤ n2 ∧ i = .int .i64 i2 ∧ ∀ x ∈ d.take i2, dataOk x = true) (fun i => n2 - (intOf i).toNat)
          case atStart => exact ⟨0, Nat.zero_le _, rfl, by simp⟩
          case round =>
            obtain ⟨i2, hi2, rfl, hall⟩ := hrel
            by_cases hlt2 : i2 < n2
            · obtain ⟨b, off, u, rfl, hu, hcell, hb⟩ := hd2.at_ hlt2
              obtain ⟨x, hx, rfl⟩ : ∃ x, d[i2]? = some x ∧ u = .int .u8 x := by
                simp only [bcells, List.getElem?_map] at hu
                rcases hx : d[i2]? with _ | x
                · rw [hx] at hu; cases hu
                · rw [hx] at hu; simp at hu; exact ⟨x, rfl, hu.symm⟩
              have hjn2 : (i2 : Int) < (n2 : Int) := by omega
              have hda := fun w => rdata_any x (HRD.out x (List.mem_of_getElem? hx)) w
              cases hdx : dataOk x with
              | true =>
                have HA := Lib.hid (show ∀ y ∈ d.take (i2 + 1), dataOk y = true by
                  intro y hy
                  rw [List.take_add_one, hx] at hy
                  rcases List.mem_append.1 hy with hy | hy
                  · exact hall y hy
                  · simp at hy; subst hy; exact hdx)
                rw [hdx] at hda
                clear hall hu hx hd2 hcd hdx
                go_wp2_with (go_at_call 54; refine (hda _).mono ?_; rintro e w1 ⟨rfl, rfl⟩)
                go_round
                case rel => exact ⟨i2 + 1, by omega, by go_num, HA.out⟩
                case measure => simp [intOf]; omega
              | false =>
                have HN := Lib.hid (show lateR k c m ps l d = 3 by
                  unfold lateR
                  rw [if_pos HP.out, if_neg]
                  intro e
                  simp only [goodB, Bool.and_eq_true] at e
                  have := List.all_eq_true.1 e.2.2.2.1 x (List.mem_of_getElem? hx)
                  rw [this] at hdx; cases hdx)
                rw [hdx] at hda
                clear hall hu hx hd2 hcd hdx
                go_wp2_with (go_at_call 54; refine (hda _).mono ?_; rintro e w1 ⟨rfl, rfl⟩)
                go_ret
                exact ⟨by rw [HN.out]; rfl, hw0⟩
            · have hjn2 : ¬ (i2 : Int) < (n2 : Int) := by omega
              have HG := Lib.hid (show lateR k c m ps l d = if (B && (decide (m = 0 ∨ (60 ≤ m ∧ m ≤ 63)) && restB ⟨k, c, m, ps, l, d⟩)) = true then 0 else 3 by
                rw [List.take_of_length_le (by have := HDL.out; omega)] at hall
                unfold lateR
                rw [if_pos HP.out]
                unfold goodB
                simp only [HL.out, List.all_eq_true.2 hall, ← HB.out, Bool.true_and])
              clear hall hd2
-- LAST
              cases B with
              | false =>
                go_wp2_with (go_at_call 55; refine (hcd _).mono ?_; rintro e w5 ⟨rfl, hg5⟩; obtain ⟨z0, z1, z2, z3, z4, z5, zf⟩ := cells6 (hg5.blk hb0))
                go_ret
                refine ⟨?_, hw0.trans hg5⟩
                rw [HG.out, if_neg (by simp [restB])]
                rfl
              | true =>
                rcases (by omega : m = 0 ∨ (m < 60 ∧ m ≠ 0) ∨ (60 ≤ m ∧ m ≤ 63) ∨ (60 ≤ m ∧ 63 < m)) with hm | hm | hm | hm
                · subst hm
                  rcases (by omega : k = 4 ∨ k = 5 ∨ k = 3 ∨ (k = 1 ∨ k = 2) ∨ (6 ≤ k ∧ k ≤ 9)) with hk | hk | hk | hk | hk
                  · subst hk
                    by_cases hn2 : n2 = 0
                    · have HD0 := Lib.hid (show d = [] from List.eq_nil_of_length_eq_zero (by rw [HDL.out]; exact hn2))
                      have r2 : ¬ 0 < n2 := by omega
                      clear hn2
                      go_wp2_with (go_at_call 55; refine (hcd _).mono ?_; rintro e w5 ⟨rfl, hg5⟩; obtain ⟨z0, z1, z2, z3, z4, z5, zf⟩ := cells6 (hg5.blk hb0))
                      go_ret
                      refine ⟨?_, hw0.trans hg5⟩
                      rw [HG.out, if_pos (by simp [restB, HD0.out])]
                      rfl
                    · have HD0 := Lib.hid (show d ≠ [] from fun e => hn2 (by rw [← HDL.out, e]; rfl))
                      have r2 : 0 < n2 := by omega
                      clear hn2
                      go_wp2_with (go_at_call 55; refine (hcd _).mono ?_; rintro e w5 ⟨rfl, hg5⟩; obtain ⟨z0, z1, z2, z3, z4, z5, zf⟩ := cells6 (hg5.blk hb0))
                      go_ret
                      refine ⟨?_, hw0.trans hg5⟩
                      rw [HG.out, if_neg (by simp [restB, HD0.out])]
                      rfl
                  · subst hk
                    go_wp2_with (go_at_call 55; refine (hcd _).mono ?_; rintro e w5 ⟨rfl, hg5⟩; obtain ⟨z0, z1, z2, z3, z4, z5, zf⟩ := cells6 (hg5.blk hb0))
                    go_ret
                    refine ⟨?_, hw0.trans hg5⟩
                    rw [HG.out, if_pos (by simp [restB])]
                    rfl
                  · subst hk
                    by_cases hn1 : n1 = 0
                    · have HP0 := Lib.hid (show ps = [] from List.eq_nil_of_length_eq_zero (by rw [HPL.out]; exact hn1))
                      have r1 : ¬ 0 < n1 := by omega
                      clear hn1
                      by_cases hn2 : n2 = 0
                      · have HD0 := Lib.hid (show d = [] from List.eq_nil_of_length_eq_zero (by rw [HDL.out]; exact hn2))
                        have r2 : ¬ 0 < n2 := by omega
                        clear hn2
                        go_wp2_with (go_at_call 55; refine (hcd _).mono ?_; rintro e w5 ⟨rfl, hg5⟩; obtain ⟨z0, z1, z2, z3, z4, z5, zf⟩ := cells6 (hg5.blk hb0))
                        go_ret
                        refine ⟨?_, hw0.trans hg5⟩
                        rw [HG.out, if_pos (by simp [restB, HP0.out, HD0.out])]
                        rfl
                      · have HD0 := Lib.hid (show d ≠ [] from fun e => hn2 (by rw [← HDL.out, e]; rfl))
                        have r2 : 0 < n2 := by omega
                        clear hn2
                        go_wp2_with (go_at_call 55; refine (hcd _).mono ?_; rintro e w5 ⟨rfl, hg5⟩; obtain ⟨z0, z1, z2, z3, z4, z5, zf⟩ := cells6 (hg5.blk hb0))
                        go_ret
                        refine ⟨?_, hw0.trans hg5⟩
                        rw [HG.out, if_neg (by simp [restB, HP0.out, HD0.out])]
                        rfl
                    · have HP0 := Lib.hid (show ps ≠ [] from fun e => hn1 (by rw [← HPL.out, e]; rfl))
                      have r1 : 0 < n1 := by omega
                      clear hn1
                      go_wp2_with (go_at_call 55; refine (hcd _).mono ?_; rintro e w5 ⟨rfl, hg5⟩; obtain ⟨z0, z1, z2, z3, z4, z5, zf⟩ := cells6 (hg5.blk hb0))
                      go_ret
                      refine ⟨?_, hw0.trans hg5⟩
                      rw [HG.out, if_neg (by simp [restB, HP0.out])]
                      rfl
                  · rcases hk with rfl | rfl
                    · skip
                      by_cases hn1 : n1 = 0
                      · have HP0 := Lib.hid (show ps = [] from List.eq_nil_of_length_eq_zero (by rw [HPL.out]; exact hn1))
                        have r1 : ¬ 0 < n1 := by omega
                        clear hn1
                        by_cases hl0 : l = []
                        · have HL0 := Lib.hid hl0
                          have hse : s = ⟨#[]⟩ := by rw [HSD.out, hl0]; rfl
                          clear hl0
                          subst hse
                          by_cases hn2 : n2 = 0
                          · have HD0 := Lib.hid (show d = [] from List.eq_nil_of_length_eq_zero (by rw [HDL.out]; exact hn2))
                            have r2 : ¬ 0 < n2 := by omega
                            clear hn2
                            go_wp2_with (go_at_call 55; refine (hcd _).mono ?_; rintro e w5 ⟨rfl, hg5⟩; obtain ⟨z0, z1, z2, z3, z4, z5, zf⟩ := cells6 (hg5.blk hb0))
                            go_ret
                            refine ⟨?_, hw0.trans hg5⟩
                            rw [HG.out, if_pos (by simp [restB, HP0.out, HL0.out, HD0.out])]
                            rfl
                          · have HD0 := Lib.hid (show d ≠ [] from fun e => hn2 (by rw [← HDL.out, e]; rfl))
                            have r2 : 0 < n2 := by omega
                            clear hn2
                            go_wp2_with (go_at_call 55; refine (hcd _).mono ?_; rintro e w5 ⟨rfl, hg5⟩; obtain ⟨z0, z1, z2, z3, z4, z5, zf⟩ := cells6 (hg5.blk hb0))
                            go_ret
                            refine ⟨?_, hw0.trans hg5⟩
                            rw [HG.out, if_neg (by simp [restB, HP0.out, HL0.out, HD0.out])]
                            rfl
                        · have HL0 := Lib.hid hl0
                          obtain ⟨p1, p2, p3⟩ := qstr (s := s) (by rw [HSD.out]; exact strOf_ne hl0)
                          have p4 : (!s.toList.isEmpty) = true := by rw [p1]; rfl
                          clear hl0
                          go_wp2_with (go_at_call 55; refine (hcd _).mono ?_; rintro e w5 ⟨rfl, hg5⟩; obtain ⟨z0, z1, z2, z3, z4, z5, zf⟩ := cells6 (hg5.blk hb0))
                          go_ret
                          refine ⟨?_, hw0.trans hg5⟩
                          rw [HG.out, if_neg (by simp [restB, HP0.out, HL0.out])]
                          rfl
                      · have HP0 := Lib.hid (show ps ≠ [] from fun e => hn1 (by rw [← HPL.out, e]; rfl))
                        have r1 : 0 < n1 := by omega
                        clear hn1
                        go_wp2_with (go_at_call 55; refine (hcd _).mono ?_; rintro e w5 ⟨rfl, hg5⟩; obtain ⟨z0, z1, z2, z3, z4, z5, zf⟩ := cells6 (hg5.blk hb0))
                        go_ret
                        refine ⟨?_, hw0.trans hg5⟩
                        rw [HG.out, if_neg (by simp [restB, HP0.out])]
                        rfl
                    · skip
                      by_cases hn1 : n1 = 0
                      · have HP0 := Lib.hid (show ps = [] from List.eq_nil_of_length_eq_zero (by rw [HPL.out]; exact hn1))
                        have r1 : ¬ 0 < n1 := by omega
                        clear hn1
                        by_cases hl0 : l = []
                        · have HL0 := Lib.hid hl0
                          have hse : s = ⟨#[]⟩ := by rw [HSD.out, hl0]; rfl
                          clear hl0
                          subst hse
                          by_cases hn2 : n2 = 0
                          · have HD0 := Lib.hid (show d = [] from List.eq_nil_of_length_eq_zero (by rw [HDL.out]; exact hn2))
                            have r2 : ¬ 0 < n2 := by omega
                            clear hn2
                            go_wp2_with (go_at_call 55; refine (hcd _).mono ?_; rintro e w5 ⟨rfl, hg5⟩; obtain ⟨z0, z1, z2, z3, z4, z5, zf⟩ := cells6 (hg5.blk hb0))
                            go_ret
                            refine ⟨?_, hw0.trans hg5⟩
                            rw [HG.out, if_pos (by simp [restB, HP0.out, HL0.out, HD0.out])]
                            rfl
                          · have HD0 := Lib.hid (show d ≠ [] from fun e => hn2 (by rw [← HDL.out, e]; rfl))
                            have r2 : 0 < n2 := by omega
                            clear hn2
                            go_wp2_with (go_at_call 55; refine (hcd _).mono ?_; rintro e w5 ⟨rfl, hg5⟩; obtain ⟨z0, z1, z2, z3, z4, z5, zf⟩ := cells6 (hg5.blk hb0))
                            go_ret
                            refine ⟨?_, hw0.trans hg5⟩
                            rw [HG.out, if_neg (by simp [restB, HP0.out, HL0.out, HD0.out])]
                            rfl
                        · have HL0 := Lib.hid hl0
                          obtain ⟨p1, p2, p3⟩ := qstr (s := s) (by rw [HSD.out]; exact strOf_ne hl0)
                          have p4 : (!s.toList.isEmpty) = true := by rw [p1]; rfl
                          clear hl0
                          go_wp2_with (go_at_call 55; refine (hcd _).mono ?_; rintro e w5 ⟨rfl, hg5⟩; obtain ⟨z0, z1, z2, z3, z4, z5, zf⟩ := cells6 (hg5.blk hb0))
                          go_ret
                          refine ⟨?_, hw0.trans hg5⟩
                          rw [HG.out, if_neg (by simp [restB, HP0.out, HL0.out])]
                          rfl
                      · have HP0 := Lib.hid (show ps ≠ [] from fun e => hn1 (by rw [← HPL.out, e]; rfl))
                        have r1 : 0 < n1 := by omega
                        clear hn1
                        go_wp2_with (go_at_call 55; refine (hcd _).mono ?_; rintro e w5 ⟨rfl, hg5⟩; obtain ⟨z0, z1, z2, z3, z4, z5, zf⟩ := cells6 (hg5.blk hb0))
                        go_ret
                        refine ⟨?_, hw0.trans hg5⟩
                        rw [HG.out, if_neg (by simp [restB, HP0.out])]
                        rfl
                  · have k4 : (k == 4) = false := by simp; omega
                    have k5 : (k == 5) = false := by simp; omega
                    have k3 : (k != 3) = true := by simp; omega
                    have kl : decide (k < 5) = false := by simp; omega
                    have e5 : restB ⟨k, c, 0, ps, l, d⟩ = decide (0 = 0 ∧ ps = [] ∧ l = []) := by
                      unfold restB; simp only; rw [if_neg (by omega), if_neg (by omega), if_neg (by omega), if_neg (by omega)]
                    rw [e5] at HG
                    clear e5
                    by_cases hn1 : n1 = 0
                    · have HP0 := Lib.hid (show ps = [] from List.eq_nil_of_length_eq_zero (by rw [HPL.out]; exact hn1))
                      have r1 : ¬ 0 < n1 := by omega
                      clear hn1
                      by_cases hl0 : l = []
                      · have HL0 := Lib.hid hl0
                        have hse : s = ⟨#[]⟩ := by rw [HSD.out, hl0]; rfl
                        clear hl0
                        subst hse
                        go_wp2_with (go_at_call 55; refine (hcd _).mono ?_; rintro e w5 ⟨rfl, hg5⟩; obtain ⟨z0, z1, z2, z3, z4, z5, zf⟩ := cells6 (hg5.blk hb0))
                        go_ret
                        refine ⟨?_, hw0.trans hg5⟩
                        rw [HG.out, if_pos (by simp [HP0.out, HL0.out ])]
                        rfl
                      · have HL0 := Lib.hid hl0
                        obtain ⟨p1, p2, p3⟩ := qstr (s := s) (by rw [HSD.out]; exact strOf_ne hl0)
                        have p4 : (!s.toList.isEmpty) = true := by rw [p1]; rfl
                        clear hl0
                        go_wp2_with (go_at_call 55; refine (hcd _).mono ?_; rintro e w5 ⟨rfl, hg5⟩; obtain ⟨z0, z1, z2, z3, z4, z5, zf⟩ := cells6 (hg5.blk hb0))
                        go_ret
                        refine ⟨?_, hw0.trans hg5⟩
                        rw [HG.out, if_neg (by simp [restB, HP0.out, HL0.out])]
                        rfl
                    · have HP0 := Lib.hid (show ps ≠ [] from fun e => hn1 (by rw [← HPL.out, e]; rfl))
                      have r1 : 0 < n1 := by omega
                      clear hn1
                      go_wp2_with (go_at_call 55; refine (hcd _).mono ?_; rintro e w5 ⟨rfl, hg5⟩; obtain ⟨z0, z1, z2, z3, z4, z5, zf⟩ := cells6 (hg5.blk hb0))
                      go_ret
                      refine ⟨?_, hw0.trans hg5⟩
                      rw [HG.out, if_neg (by simp [restB, HP0.out])]
                      rfl
                · have hmz : (m != 0) = true := by simp; omega
                  have HMR := Lib.hid (show ¬ (m = 0 ∨ (60 ≤ m ∧ m ≤ 63)) by omega)
                  obtain ⟨hm1, hm2⟩ := hm
                  go_wp2_with (go_at_call 55; refine (hcd _).mono ?_; rintro e w5 ⟨rfl, hg5⟩; obtain ⟨z0, z1, z2, z3, z4, z5, zf⟩ := cells6 (hg5.blk hb0))
                  go_ret
                  refine ⟨?_, hw0.trans hg5⟩
                  rw [HG.out, if_neg (by simp [restB, HMR.out])]
                  rfl
                · have hmz : (m != 0) = true := by simp; omega
                  have HMR := Lib.hid (show m ≠ 0 ∧ 60 ≤ m ∧ m ≤ 63 by omega)
                  obtain ⟨hm1, hm2⟩ := hm
                  rcases (by omega : k = 4 ∨ k = 5 ∨ k = 3 ∨ (k = 1 ∨ k = 2) ∨ (6 ≤ k ∧ k ≤ 9)) with hk | hk | hk | hk | hk
                  · subst hk
                    by_cases hn2 : n2 = 0
                    · have HD0 := Lib.hid (show d = [] from List.eq_nil_of_length_eq_zero (by rw [HDL.out]; exact hn2))
                      have r2 : ¬ 0 < n2 := by omega
                      clear hn2
                      go_wp2_with (go_at_call 55; refine (hcd _).mono ?_; rintro e w5 ⟨rfl, hg5⟩; obtain ⟨z0, z1, z2, z3, z4, z5, zf⟩ := cells6 (hg5.blk hb0))
                      go_ret
                      refine ⟨?_, hw0.trans hg5⟩
                      rw [HG.out, if_pos (by simp [restB, HMR.out, HD0.out])]
                      rfl
                    · have HD0 := Lib.hid (show d ≠ [] from fun e => hn2 (by rw [← HDL.out, e]; rfl))
                      have r2 : 0 < n2 := by omega
                      clear hn2
                      go_wp2_with (go_at_call 55; refine (hcd _).mono ?_; rintro e w5 ⟨rfl, hg5⟩; obtain ⟨z0, z1, z2, z3, z4, z5, zf⟩ := cells6 (hg5.blk hb0))
                      go_ret
                      refine ⟨?_, hw0.trans hg5⟩
                      rw [HG.out, if_neg (by simp [restB, HMR.out, HD0.out])]
                      rfl
                  · subst hk
                    go_wp2_with (go_at_call 55; refine (hcd _).mono ?_; rintro e w5 ⟨rfl, hg5⟩; obtain ⟨z0, z1, z2, z3, z4, z5, zf⟩ := cells6 (hg5.blk hb0))
                    go_ret
                    refine ⟨?_, hw0.trans hg5⟩
                    rw [HG.out, if_pos (by simp [restB, HMR.out])]
                    rfl
                  · subst hk
                    go_wp2_with (go_at_call 55; refine (hcd _).mono ?_; rintro e w5 ⟨rfl, hg5⟩; obtain ⟨z0, z1, z2, z3, z4, z5, zf⟩ := cells6 (hg5.blk hb0))
                    go_ret
                    refine ⟨?_, hw0.trans hg5⟩
                    rw [HG.out, if_neg (by simp [restB, HMR.out])]
                    rfl
                  · rcases hk with rfl | rfl
                    · skip
                      go_wp2_with (go_at_call 55; refine (hcd _).mono ?_; rintro e w5 ⟨rfl, hg5⟩; obtain ⟨z0, z1, z2, z3, z4, z5, zf⟩ := cells6 (hg5.blk hb0))
                      go_ret
                      refine ⟨?_, hw0.trans hg5⟩
                      rw [HG.out, if_neg (by simp [restB, HMR.out])]
                      rfl
                    · skip
                      go_wp2_with (go_at_call 55; refine (hcd _).mono ?_; rintro e w5 ⟨rfl, hg5⟩; obtain ⟨z0, z1, z2, z3, z4, z5, zf⟩ := cells6 (hg5.blk hb0))
                      go_ret
                      refine ⟨?_, hw0.trans hg5⟩
                      rw [HG.out, if_neg (by simp [restB, HMR.out])]
                      rfl
                  · have k4 : (k == 4) = false := by simp; omega
                    have k5 : (k == 5) = false := by simp; omega
                    have k3 : (k != 3) = true := by simp; omega
                    have kl : decide (k < 5) = false := by simp; omega
                    have e5 : restB ⟨k, c, m, ps, l, d⟩ = decide (m = 0 ∧ ps = [] ∧ l = []) := by
                      unfold restB; simp only; rw [if_neg (by omega), if_neg (by omega), if_neg (by omega), if_neg (by omega)]
                    rw [e5] at HG
                    clear e5
                    go_wp2_with (go_at_call 55; refine (hcd _).mono ?_; rintro e w5 ⟨rfl, hg5⟩; obtain ⟨z0, z1, z2, z3, z4, z5, zf⟩ := cells6 (hg5.blk hb0))
                    go_ret
                    refine ⟨?_, hw0.trans hg5⟩
                    rw [HG.out, if_neg (by simp [HMR.out ])]
                    rfl
                · have hmz : (m != 0) = true := by simp; omega
                  have HMR := Lib.hid (show ¬ (m = 0 ∨ (60 ≤ m ∧ m ≤ 63)) by omega)
                  obtain ⟨hm1, hm2⟩ := hm
                  go_wp2_with (go_at_call 55; refine (hcd _).mono ?_; rintro e w5 ⟨rfl, hg5⟩; obtain ⟨z0, z1, z2, z3, z4, z5, zf⟩ := cells6 (hg5.blk hb0))
                  go_ret
                  refine ⟨?_, hw0.trans hg5⟩
                  rw [HG.out, if_neg (by simp [restB, HMR.out])]
                  rfl
-- END
end Go.Proofs.YtjfffkaifcajbaaDoor
