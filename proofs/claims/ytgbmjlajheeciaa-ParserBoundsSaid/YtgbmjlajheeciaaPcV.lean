/-
  The document's reading of a whole stream, walked: the loop.
-/
import Derived.Test.YtgbmjlajheeciaaPcU
namespace Go.Proofs.Ytgbmjlajheeciaa
set_option linter.unusedSimpArgs false
set_option linter.unusedVariables false
open Go.RowKit

/-- What reading a whole stream leaves. -/
def SplitTo (w : World) (r : List Tok × Bool) (e : Ending) (w' : World) : Prop := ∃ v qs, e = .returned (.tuple #[v, .bool r.2]) ∧ RTs w' w.heap.size r.1 v qs ∧ Gr w w'
theorem nx_none {r : Option (List Int)} {l : List Int} {lo : Nat} {nx : Int} (h : (r = none ∧ nx = -1) ∨ ∃ n : Nat, nx = n ∧ r = some (l.drop n) ∧ lo ≤ n ∧ n ≤ l.length) (hr : r = none) : nx = -1 := by
  rcases h with ⟨_, h⟩ | ⟨n, _, h, _⟩
  · exact h
  · rw [hr] at h; cases h
theorem nx_some {r : Option (List Int)} {l x : List Int} {lo : Nat} {nx : Int} (h : (r = none ∧ nx = -1) ∨ ∃ n : Nat, nx = n ∧ r = some (l.drop n) ∧ lo ≤ n ∧ n ≤ l.length) (hr : r = some x) : ∃ n : Nat, nx = n ∧ r = some (l.drop n) ∧ lo ≤ n ∧ n ≤ l.length := by
  rcases h with ⟨h, _⟩ | h
  · rw [hr] at h; cases h
  · exact h
theorem SplitPos.len {P : List Int} {i : Nat} {ts : List Tok} (h : SplitPos P i ts) (hc : P[i]? = some 27) : (seqR (P.drop (i + 1))).1.length ≤ (splitR P.length P).1.length := by
  obtain ⟨f, hf, h⟩ := h
  rw [drop_cons hc] at hf h
  simp only [List.length_cons] at hf
  obtain ⟨f, rfl⟩ : ∃ g, f = g + 1 := ⟨f - 1, by omega⟩
  rw [h]
  simp only [splitR, if_true]
  rcases hs : seqR (P.drop (i + 1)) with ⟨t, _ | r⟩
  · simp
  · simp; omega
theorem SplitPos.le {P : List Int} {k : Nat} {ts : List Tok} (h : SplitPos P k ts) : ts.length ≤ (splitR P.length P).1.length := by
  obtain ⟨f, _, h⟩ := h
  rw [h]; simp

set_option maxRecDepth 100000 in
set_option maxHeartbeats 2000000 in
theorem rsplit_walk {w : World} {a : Option Addr} {n cap : Nat} {l : List Int} (hl : ∀ c ∈ l, 0 ≤ c ∧ c < 256) (hn : n ≤ 40000) (hr : Rd w a n (bcells l)) :
    Calls Try.prog 12 #[.slice a n cap] w (SplitTo w (splitR (plainL l).length (plainL l))) := by
  have hpc := rplain_walk (cap := cap) hl hn hr
  have hln : l.length = n := by simpa [bcells] using hr.1
  have hPr := plainL_range l hl
  have hPl := plainL_len l
  obtain ⟨P, hP⟩ : ∃ P, P = plainL l := ⟨_, rfl⟩
  rw [← hP] at hpc hPr hPl ⊢
  have hm : P.length ≤ 80000 := by omega
  have hB : (splitR P.length P).1.length ≤ 80000 := by
    have h1 := (feed_split l hl).1
    have h2 := feedM_len PS.init l
    rw [← hP] at h1
    rw [← h1]; omega
  have HB := Lib.hid hB
  have HP := Lib.hid hP
  have HR := Lib.hid hPr
  clear hP hl hln hPl hPr hB
  go_enter Try.func12, Try.ntmps12
  go_wp2_with (go_at_call 22; refine hpc.mono ?_; rintro e w1 ⟨pv, rfl, hrow, hg1⟩; obtain ⟨pa, pc, rfl⟩ := row_form hrow)
  go_loopw [5, 6] (fun v i wr => ∃ (k : Nat) (ts : List Tok) (qs : List (Value × Value)), k ≤ P.length ∧ i = .int .i64 k ∧ RTs wr w1.heap.size ts v qs ∧ Gr w1 wr ∧ SplitPos P k ts) (fun _ i _ => P.length - (intOf i).toNat)
  case atStart => exact ⟨0, [], [], Nat.zero_le _, rfl, .nil _ _, .refl _, .start P⟩
  case round =>
    obtain ⟨k, ts, qs, hk, rfl, hT, hgr1, hpos⟩ := hrel
    have htl : ts.length ≤ 80000 := Nat.le_trans hpos.le HB.out
    obtain ⟨ta, tc, rfl⟩ := row_form hT.row
    have hrd := (HasRow.of_own hrow).rd
    have HS := Lib.hid hpos
    clear hpos
    have hsz := hgr1.size
    by_cases hlt : k < P.length
    · obtain ⟨a', cap', hv, hRd, _⟩ := hrd
      injection hv with hv1 hv2 hv3
      subst hv1; subst hv3
      obtain ⟨b, off, c, rfl, hc, hcell, hb⟩ := (hRd.gr hgr1).byte hlt
      have HC := Lib.hid hc
      obtain ⟨c0, c1⟩ := HR.out c (List.mem_of_getElem? hc)
      have hkn : (k : Int) < (P.length : Int) := by omega
      clear hc
      by_cases h27 : c = 27
      · subst h27
        have hcon := rseq_walk (cap := pc) (at_ := k + 1) HR.out hm (by omega) (hRd.gr hgr1)
        rw [show ((k + 1 : Nat) : Int) = (k : Int) + 1 by simp] at hcon
        have HRd := Lib.hid hRd
        clear hRd
        cases hsq : (seqR (P.drop (k + 1))).2 with
        | none =>
          have he := HS.out.stop HC.out hsq
          have hl2 : (seqR (P.drop (k + 1))).1.length ≤ 80000 := by have := HB.out; rw [he] at this; simp at this; omega
          have HE := Lib.hid he; have HQ := Lib.hid hsq
          clear he hsq
          go_wp2_with (first
            | (go_at_call 23; refine hcon.mono ?_; rintro e w2 ⟨v', qs', nx, rfl, hT', hg2, hnx⟩; have hnx1 := nx_none hnx HQ.out; subst hnx1; obtain ⟨va', vc', rfl⟩ := row_form hT'.row)
            | (at_builtin; refine wpList_appRow rfl _ _ _ rfl 52 _ 6 80 w1.heap.size _ Try.underlying25 rtoken_info rfl (by omega) (by omega) _ _ _ _ _ _ rfl rfl (ownsRow_gr hT.row (hg2.alloc _)) (ownsRow_gr hT'.row ((Gr.refl _).alloc _)) hT'.one (by omega) (by have := hg2.size; simp; omega) ?_; intro V w3 hown hgrow hV; obtain ⟨va3, vc3, rfl⟩ := row_form hown
               have hPb := (hgrow.block w2.heap.size (by simp) (fun e => by have h1 := ownsRow_blk hT.row e.symm; have := hg2.size; omega)).trans (heap_alloc_new w2 _)
               obtain ⟨z0, z1, zf⟩ := cells2 hPb
               have hA := (hT.gr (hg2.alloc _)).app (hT'.gr ((Gr.refl _).alloc _)) hgrow hown
               have hgw3 : Gr w1 w3 := Below.grown ((hgr1.trans hg2).trans ((Gr.refl w2).alloc _)) hgrow ((hgr1.trans hg2).trans ((Gr.refl w2).alloc _)).size (fun k hk => ownsRow_base hT.row hk)))
          go_ret2
          rw [HE.out]
          exact ⟨.slice va3 (ts.length + (seqR (P.drop (k + 1))).1.length) vc3, _, rfl, hA.mono hg1.size, hg1.trans hgw3⟩
        | some rest =>
          have HQ := Lib.hid hsq
          have hl2 : (seqR (P.drop (k + 1))).1.length ≤ 200000 := by
            have := Nat.le_trans (HS.out.len HC.out) HB.out
            omega
          clear hsq
          go_wp2_with (first
            | (go_at_call 23; refine hcon.mono ?_; rintro e w2 ⟨v', qs', nx, rfl, hT', hg2, hnx⟩; obtain ⟨m, rfl, hm1, hm2, hm3⟩ := nx_some hnx HQ.out; have HM := Lib.hid hm1; clear hm1 hnx; obtain ⟨va', vc', rfl⟩ := row_form hT'.row)
            | (at_builtin; refine wpList_appRow rfl _ _ _ rfl 52 _ 6 80 w1.heap.size _ Try.underlying25 rtoken_info rfl (by omega) (by omega) _ _ _ _ _ _ rfl rfl (ownsRow_gr hT.row (hg2.alloc _)) (ownsRow_gr hT'.row ((Gr.refl _).alloc _)) hT'.one (by omega) (by have := hg2.size; simp; omega) ?_; intro V w3 hown hgrow hV; obtain ⟨va3, vc3, rfl⟩ := row_form hown
               have hPb := (hgrow.block w2.heap.size (by simp) (fun e => by have h1 := ownsRow_blk hT.row e.symm; have := hg2.size; omega)).trans (heap_alloc_new w2 _)
               obtain ⟨z0, z1, zf⟩ := cells2 hPb
               have hA := (hT.gr (hg2.alloc _)).app (hT'.gr ((Gr.refl _).alloc _)) hgrow hown
               have hgw3 : Gr w1 w3 := Below.grown ((hgr1.trans hg2).trans ((Gr.refl w2).alloc _)) hgrow ((hgr1.trans hg2).trans ((Gr.refl w2).alloc _)).size (fun k hk => ownsRow_base hT.row hk)))
          go_roundw
          case rel => exact ⟨m, _, _, hm3, rfl, by simpa using hA, hgw3, HS.out.seq HC.out HM.out hm2⟩
          case measure => simp [intOf]; omega
      · have q27 : (c == 27) = false := by simpa using h27
        have HN := Lib.hid (HS.out.byte HC.out h27)
        clear h27
        by_cases h32 : 32 ≤ c
        · rw [if_pos h32] at HN
          go_wp2_with (at_builtin; refine wpList_pushN rfl _ _ _ rfl w1.heap.size 52 _ 6 80 Try.underlying25 rtoken_info rfl (by omega) (by omega) _ _ _ (tcells (printT c) (.slice none 0 0, .slice none 0 0)) (ownsRow_gr hT.row ((Gr.refl _).alloc _)) _ rfl rfl (heap_alloc_new _ _) rfl (tok_one _ _ _ _ _ _ _) (by omega) (by simp; omega) ?_; intro g cap2 w2 hG hown)
          go_roundw
          case rel => exact ⟨k + 1, ts ++ [printT c], _, by omega, by go_num, by simpa using (hT.gr ((Gr.refl _).alloc _)).push (q := (.slice none 0 0, .slice none 0 0)) ⟨.nil _ _, .nil _ _⟩ hG hown, hG.gr (hgr1.alloc _) fun k hk => ownsRow_base hT.row hk, HN.out⟩
          case measure => simp [intOf]; omega
        · rw [if_neg h32] at HN
          by_cases h24 : c = 24
          · subst h24
            clear h32
            go_wp2_with fail
            go_roundw
            case rel => exact ⟨k + 1, ts, qs, by omega, by go_num, hT, hgr1, by simpa using HN.out⟩
            case measure => simp [intOf]; omega
          · have q24 : (c != 24) = true := by simpa using h24
            rw [if_pos h24] at HN
            clear h24
            go_wp2_with (first
              | (go_at_call 24; refine (rctrl_lit _ _).mono ?_; rintro e w2 ⟨rfl, hg2⟩)
              | (at_builtin; refine wpList_pushN rfl _ _ _ rfl w1.heap.size 52 _ 6 80 Try.underlying25 rtoken_info rfl (by omega) (by omega) _ _ _ (tcells (ctrlT c) (.slice none 0 0, .slice none 0 0)) (ownsRow_gr hT.row (hg2.alloc _)) _ rfl rfl (heap_alloc_new _ _) rfl (tok_one _ _ _ _ _ _ _) (by omega) (by have := hg2.size; simp; omega) ?_; intro g cap2 w3 hG hown))
            go_roundw
            case rel => exact ⟨k + 1, ts ++ [ctrlT c], _, by omega, by go_num, by simpa using (hT.gr (hg2.alloc _)).push (rtok_ctrl _ c) hG hown, hG.gr ((hgr1.trans hg2).alloc _) fun k hk => ownsRow_base hT.row hk, HN.out⟩
            case measure => simp [intOf]; omega
    · have hkn : ¬ (k : Int) < (P.length : Int) := by omega
      have he := HS.out.end (by omega)
      have HE := Lib.hid he
      clear he hrd
      go_wp2_with fail
      go_ret2
      rw [HE.out]
      exact ⟨.slice ta ts.length tc, qs, rfl, hT.mono hg1.size, hg1.trans hgr1⟩
end Go.Proofs.Ytgbmjlajheeciaa
