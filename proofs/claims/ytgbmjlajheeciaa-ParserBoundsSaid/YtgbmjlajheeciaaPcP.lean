/-
  The document's sequence, walked: one with numbers.
-/
import Derived.Test.YtgbmjlajheeciaaPcL
namespace Go.Proofs.Ytgbmjlajheeciaa
set_option linter.unusedSimpArgs false
set_option linter.unusedVariables false
open Go.RowKit

theorem rheader_eq {w : World} {a : Option Addr} {n cap at_ : Nat} {l : List Int} {last : Int} {g : HR} (hg : g = hdr last (l.drop at_)) (hl : ∀ c ∈ l, 0 ≤ c ∧ c < 256) (hn : n ≤ 80000) (hat : at_ ≤ n) (hr : Rd w a n (bcells l)) :
    Calls Try.prog 40 #[.slice a n cap, .int .i64 (at_ : Int), .int .u8 last] w (HeaderTo w l at_ g) := by
  rw [hg]; exact rheader_walk last hl hn hat hr
theorem rheader_leq {w : World} {a : Option Addr} {n cap at_ : Nat} {l b : List Int} {last c : Int} {g : HR} (hg : g = hdr last (l.drop at_)) (hl : ∀ c ∈ l, 0 ≤ c ∧ c < 256) (hn : n ≤ 80000) (hat : at_ ≤ n) (hr : Rd w a n (bcells l)) (he : g.ended = 1) (hbc : g.bytes = b ++ [c]) :
    Calls Try.prog 40 #[.slice a n cap, .int .i64 (at_ : Int), .int .u8 last] w (HdLast w l at_ g b c) := by
  subst hg; exact rheader_last hl hn hat hr he hbc

section
variable {w : World} {a : Option Addr} {n cap at_ : Nat} {l : List Int}

set_option maxRecDepth 100000 in
set_option maxHeartbeats 2000000 in
theorem rseq_num0 {c : Int} (hl : ∀ c ∈ l, 0 ≤ c ∧ c < 256) (hn : n ≤ 80000) (hat : at_ ≤ n) (hr : Rd w a n (bcells l)) (he : (hdr 48 (l.drop at_)).ended = 1) (hbc : (hdr 48 (l.drop at_)).bytes = [c]) (hk : opKind c ≠ 0 ∧ opKind c ≤ 5) (he2 : (hdr 64 (hdr 48 (l.drop at_)).rest).ended = 0) :
    Calls Try.prog 23 #[.slice a n cap, .int .i64 (at_ : Int)] w (SeqTo w l at_ (seqR (l.drop at_))) := by
  have hs : seqR (l.drop at_) = ((hdr 48 (l.drop at_)).toks ++ (hdr 64 (hdr 48 (l.drop at_)).rest).toks, none) := by
    have h5 : ¬ 5 < opKind c := by omega
    simp only [seqR, he, hbc]
    simp [hk.1, h5, he2]
  have hln : l.length = n := by simpa [bcells] using hr.1
  have htl : (hdr 48 (l.drop at_)).toks.length ≤ 100000 := by
    have h1 := (hdr_props 48 (l.drop at_) fun c hc => hl c (List.mem_of_mem_drop hc)).2.2.2.2.1
    rw [List.length_drop] at h1; omega
  rw [hs]
  have hR := heap_alloc_new w (.cells #[.slice none 0 0, .int .i64 0] 50)
  have hg0 := (Gr.refl w).alloc (.cells #[.slice none 0 0, .int .i64 0] 50)
  have hcon := rheader_last (b := []) (cap := cap) hl hn hat (hr.gr hg0) he hbc
  obtain ⟨hr0, hh⟩ : ∃ h, h = hdr 48 (l.drop at_) := ⟨_, rfl⟩
  rw [← hh] at hcon he hbc htl he2 ⊢
  obtain ⟨g, hgg⟩ : ∃ g, g = hdr 64 hr0.rest := ⟨_, rfl⟩
  rw [← hgg] at he2 ⊢
  have H1 := Lib.hid hs
  have H2 := Lib.hid he
  have H3 := Lib.hid hh
  have H4 := Lib.hid hbc
  have H5 := Lib.hid hl
  have H6 := Lib.hid hln
  have H7 := Lib.hid hgg
  have H8 := Lib.hid he2
  clear hs he hh hbc hl hln hgg he2
  have hbg := rbegun_any c
  obtain ⟨kd, hkd⟩ : ∃ kd, kd = opKind c := ⟨_, rfl⟩
  rw [← hkd] at hbg hk
  try rw [← hkd]
  have HK := Lib.hid hkd
  clear hkd
  obtain ⟨hk1, hk2⟩ := hk
  have hk0 : (kd == 0) = false := by simpa using hk1
  have hk5 : ¬ 5 < kd := by omega
  have hgt : ∀ n2 : Nat, hr0.rest = l.drop n2 → g.toks.length ≤ 100000 := fun n2 h2 => by
    have h1 := (hdr_props 64 (l.drop n2) fun c hc => H5.out c (List.mem_of_mem_drop hc)).2.2.2.2.1
    rw [← h2, ← H7.out] at h1
    rw [h2, List.length_drop] at h1
    have := H6.out
    omega
  have HGT := Lib.hid hgt
  clear hk1 hgt
  go_enter Try.func23, Try.ntmps23
  go_wp2_with (first
    | (go_at_call 40; (with_reducible refine hcon.mono ?_); rintro e w1 ⟨ta, tc, qs, gb, bc, n2, rfl, hT, hq, hby, hrs, ha2, hn2, hg1⟩; have hR1 := hg1.blk hR; obtain ⟨r0, r1, rf⟩ := cells2 hR1; have hz1 := blk_lt hR1; obtain ⟨hcc, hgz, hbcap, hcells⟩ := last_cells hby; have hgtl := HGT.out n2 hrs; have HRS := Lib.hid hrs; have HCL := Lib.hid hcells; clear hrs hcells; simp only [List.length_nil] at hcc)
    | (go_at_call 42; (with_reducible refine (hbg _).mono ?_); rintro e w' ⟨rfl, rfl⟩)
    | (go_at_call 40; refine (rheader_eq (g := g) (by rw [← HRS.out]; exact H7.out) H5.out hn (by have := H6.out; omega) (hr.gr ((hg0.trans hg1).alloc _))).mono ?_; intro e w2 hH2; obtain ⟨tv2, qs2, bv2, nx2, rfl, hT2, hq2, hby2, hnx2, hg2⟩ := hH2.get H8.out; obtain ⟨ta2, tc2, rfl⟩ := row_form hT2.row; obtain ⟨ba2, bc2, rfl⟩ := row_form hby2; obtain ⟨v0, v1, v2, v3, vf⟩ := cells4 hg2.keep; have hz2 := hg2.lt; have hR2 := hg2.blk (((Gr.refl _).alloc _).blk hR1); obtain ⟨u0, u1, uf⟩ := cells2 hR2)
    | (at_builtin; refine wpList_appRow rfl _ _ _ rfl 52 _ 6 80 (w.heap.size + 1) _ Try.underlying25 rtoken_info rfl (by omega) (by omega) _ _ _ _ _ _ rfl rfl (ownsRow_gr (ownsRow_mono hT.row (by simp)) (by (repeat (first | with_reducible exact Gr.refl _ | with_reducible assumption | with_reducible refine Gr.setCell ?_ (by simp; try omega) _ | with_reducible refine Gr.alloc ?_ _ | with_reducible refine Gr.drew ?_ | with_reducible refine Gr.drewN ?_ _ | with_reducible refine Gr.trans ?_ (by assumption))))) (ownsRow_gr hT2.row (by (repeat (first | with_reducible exact Gr.refl _ | with_reducible assumption | with_reducible refine Gr.setCell ?_ (by simp; try omega) _ | with_reducible refine Gr.alloc ?_ _ | with_reducible refine Gr.drew ?_ | with_reducible refine Gr.drewN ?_ _ | with_reducible refine Gr.trans ?_ (by assumption))))) (hT2.one) (by omega) (by have := hg2.size; simp at this; simp; omega) ?_; intro V w3 hown hgrow hV; obtain ⟨va, vc, rfl⟩ := row_form hown
       have hR3 := (hgrow.block w.heap.size (by have := hg2.size; simp at this; simp; omega) (fun e => row_ne hT.row hR1 (by decide) e.symm)).trans (Gr.blk (a := w1) (by (repeat (first | with_reducible exact Gr.refl _ | with_reducible assumption | with_reducible refine Gr.setCell ?_ (by simp; try omega) _ | with_reducible refine Gr.alloc ?_ _ | with_reducible refine Gr.drew ?_ | with_reducible refine Gr.drewN ?_ _ | with_reducible refine Gr.trans ?_ (by assumption)))) hR1)
       obtain ⟨s0, s1, sf⟩ := cells2 hR3
       have hG3 := (hgrow.block w2.heap.size (by simp) (fun e => by have h1 := ownsRow_blk hT.row e.symm; have := hg2.size; simp at this; omega)).trans (heap_alloc_new w2 _)
       obtain ⟨t0, t1, t2, t3, tf⟩ := cells4 hG3
       have hA := ((hT.mono (B' := w.heap.size + 1) (by simp)).gr (w' := w2.alloc _) (by (repeat (first | with_reducible exact Gr.refl _ | with_reducible assumption | with_reducible refine Gr.setCell ?_ (by simp; try omega) _ | with_reducible refine Gr.alloc ?_ _ | with_reducible refine Gr.drew ?_ | with_reducible refine Gr.drewN ?_ _ | with_reducible refine Gr.trans ?_ (by assumption))))).app (hT2.gr ((Gr.refl _).alloc _)) hgrow hown
       have hgw3 : Gr w w3 := Below.grown ((hg0.trans hg1).trans (Gr.trans (Gr.alloc (Gr.refl w1) _) (hg2.alloc _))) hgrow (Gr.trans (hg0.trans hg1) (Gr.trans (Gr.alloc (Gr.refl w1) _) (hg2.alloc _))).size (fun k hk => by have := ownsRow_base hT.row hk; simp at this; omega)))
  refine bodyPost_ret (v := .agg #[.slice va (hr0.toks.length + g.toks.length) vc, .int .i64 (-1)]) (by simp [results, Try.results23, go_sem, *]) rfl ?_
  exact .mk hA hR3 hgw3 (by omega) (.inl ⟨rfl, rfl⟩) rfl

set_option maxRecDepth 100000 in
set_option maxHeartbeats 2000000 in
theorem rseq_num2 {c : Int} (hl : ∀ c ∈ l, 0 ≤ c ∧ c < 256) (hn : n ≤ 80000) (hat : at_ ≤ n) (hr : Rd w a n (bcells l)) (he : (hdr 48 (l.drop at_)).ended = 1) (hbc : (hdr 48 (l.drop at_)).bytes = [c]) (hk : opKind c ≠ 0 ∧ opKind c ≤ 5) (he2 : (hdr 64 (hdr 48 (l.drop at_)).rest).ended = 2) :
    Calls Try.prog 23 #[.slice a n cap, .int .i64 (at_ : Int)] w (SeqTo w l at_ (seqR (l.drop at_))) := by
  have hs : seqR (l.drop at_) = brokenR (hdr 64 (hdr 48 (l.drop at_)).rest).rest ((hdr 48 (l.drop at_)).toks ++ (hdr 64 (hdr 48 (l.drop at_)).rest).toks) := by
    have h5 : ¬ 5 < opKind c := by omega
    simp only [seqR, he, hbc]
    simp [hk.1, h5, he2]
  have hln : l.length = n := by simpa [bcells] using hr.1
  have htl : (hdr 48 (l.drop at_)).toks.length ≤ 100000 := by
    have h1 := (hdr_props 48 (l.drop at_) fun c hc => hl c (List.mem_of_mem_drop hc)).2.2.2.2.1
    rw [List.length_drop] at h1; omega
  rw [hs]
  have hR := heap_alloc_new w (.cells #[.slice none 0 0, .int .i64 0] 50)
  have hg0 := (Gr.refl w).alloc (.cells #[.slice none 0 0, .int .i64 0] 50)
  have hcon := rheader_last (b := []) (cap := cap) hl hn hat (hr.gr hg0) he hbc
  obtain ⟨hr0, hh⟩ : ∃ h, h = hdr 48 (l.drop at_) := ⟨_, rfl⟩
  rw [← hh] at hcon he hbc htl he2 ⊢
  obtain ⟨g, hgg⟩ : ∃ g, g = hdr 64 hr0.rest := ⟨_, rfl⟩
  rw [← hgg] at he2 ⊢
  have H1 := Lib.hid hs
  have H2 := Lib.hid he
  have H3 := Lib.hid hh
  have H4 := Lib.hid hbc
  have H5 := Lib.hid hl
  have H6 := Lib.hid hln
  have H7 := Lib.hid hgg
  have H8 := Lib.hid he2
  clear hs he hh hbc hl hln hgg he2
  have hbg := rbegun_any c
  obtain ⟨kd, hkd⟩ : ∃ kd, kd = opKind c := ⟨_, rfl⟩
  rw [← hkd] at hbg hk
  try rw [← hkd]
  have HK := Lib.hid hkd
  clear hkd
  obtain ⟨hk1, hk2⟩ := hk
  have hk0 : (kd == 0) = false := by simpa using hk1
  have hk5 : ¬ 5 < kd := by omega
  have hgt : ∀ n2 : Nat, hr0.rest = l.drop n2 → g.toks.length ≤ 100000 := fun n2 h2 => by
    have h1 := (hdr_props 64 (l.drop n2) fun c hc => H5.out c (List.mem_of_mem_drop hc)).2.2.2.2.1
    rw [← h2, ← H7.out] at h1
    rw [h2, List.length_drop] at h1
    have := H6.out
    omega
  have HGT := Lib.hid hgt
  clear hk1 hgt
  go_enter Try.func23, Try.ntmps23
  go_wp2_with (first
    | (go_at_call 40; (with_reducible refine hcon.mono ?_); rintro e w1 ⟨ta, tc, qs, gb, bc, n2, rfl, hT, hq, hby, hrs, ha2, hn2, hg1⟩; have hR1 := hg1.blk hR; obtain ⟨r0, r1, rf⟩ := cells2 hR1; have hz1 := blk_lt hR1; obtain ⟨hcc, hgz, hbcap, hcells⟩ := last_cells hby; have hgtl := HGT.out n2 hrs; have HRS := Lib.hid hrs; have HCL := Lib.hid hcells; clear hrs hcells; simp only [List.length_nil] at hcc)
    | (go_at_call 42; (with_reducible refine (hbg _).mono ?_); rintro e w' ⟨rfl, rfl⟩)
    | (go_at_call 40; refine (rheader_eq (g := g) (by rw [← HRS.out]; exact H7.out) H5.out hn (by have := H6.out; omega) (hr.gr ((hg0.trans hg1).alloc _))).mono ?_; intro e w2 hH2; obtain ⟨tv2, qs2, bv2, nx2, rfl, hT2, hq2, hby2, hnx2, hg2⟩ := hH2.get H8.out; obtain ⟨ta2, tc2, rfl⟩ := row_form hT2.row; obtain ⟨ba2, bc2, rfl⟩ := row_form hby2; obtain ⟨v0, v1, v2, v3, vf⟩ := cells4 hg2.keep; have hz2 := hg2.lt; have hR2 := hg2.blk (((Gr.refl _).alloc _).blk hR1); obtain ⟨u0, u1, uf⟩ := cells2 hR2
       obtain ⟨n3, rfl, hrs3, ha3, hn3⟩ := hnx2 (by decide)
       obtain ⟨c3, hc3⟩ : ∃ c, l[n3]? = some c := by
         have hp := (hdr_props 64 (l.drop n2) fun c hc => H5.out c (List.mem_of_mem_drop hc)).2.2.2.2.2
         rw [← HRS.out, ← H7.out] at hp
         obtain ⟨c, r, hcr⟩ := hp H8.out
         rw [hrs3] at hcr
         exact ⟨c, by have := congrArg (fun x => x[0]?) hcr; simpa using this⟩
       have HRS3 := Lib.hid hrs3
       have HC3 := Lib.hid hc3
       clear hrs3 hc3 hnx2)
    | (at_builtin; refine wpList_appRow rfl _ _ _ rfl 52 _ 6 80 (w.heap.size + 1) _ Try.underlying25 rtoken_info rfl (by omega) (by omega) _ _ _ _ _ _ rfl rfl (ownsRow_gr (ownsRow_mono hT.row (by simp)) (by (repeat (first | with_reducible exact Gr.refl _ | with_reducible assumption | with_reducible refine Gr.setCell ?_ (by simp; try omega) _ | with_reducible refine Gr.alloc ?_ _ | with_reducible refine Gr.drew ?_ | with_reducible refine Gr.drewN ?_ _ | with_reducible refine Gr.trans ?_ (by assumption))))) (ownsRow_gr hT2.row (by (repeat (first | with_reducible exact Gr.refl _ | with_reducible assumption | with_reducible refine Gr.setCell ?_ (by simp; try omega) _ | with_reducible refine Gr.alloc ?_ _ | with_reducible refine Gr.drew ?_ | with_reducible refine Gr.drewN ?_ _ | with_reducible refine Gr.trans ?_ (by assumption))))) (hT2.one) (by omega) (by have := hg2.size; simp at this; simp; omega) ?_; intro V w3 hown hgrow hV; obtain ⟨va, vc, rfl⟩ := row_form hown
       have hR3 := (hgrow.block w.heap.size (by have := hg2.size; simp at this; simp; omega) (fun e => row_ne hT.row hR1 (by decide) e.symm)).trans (Gr.blk (a := w1) (by (repeat (first | with_reducible exact Gr.refl _ | with_reducible assumption | with_reducible refine Gr.setCell ?_ (by simp; try omega) _ | with_reducible refine Gr.alloc ?_ _ | with_reducible refine Gr.drew ?_ | with_reducible refine Gr.drewN ?_ _ | with_reducible refine Gr.trans ?_ (by assumption)))) hR1)
       obtain ⟨s0, s1, sf⟩ := cells2 hR3
       have hG3 := (hgrow.block w2.heap.size (by simp) (fun e => by have h1 := ownsRow_blk hT.row e.symm; have := hg2.size; simp at this; omega)).trans (heap_alloc_new w2 _)
       obtain ⟨t0, t1, t2, t3, tf⟩ := cells4 hG3
       have hA := ((hT.mono (B' := w.heap.size + 1) (by simp)).gr (w' := w2.alloc _) (by (repeat (first | with_reducible exact Gr.refl _ | with_reducible assumption | with_reducible refine Gr.setCell ?_ (by simp; try omega) _ | with_reducible refine Gr.alloc ?_ _ | with_reducible refine Gr.drew ?_ | with_reducible refine Gr.drewN ?_ _ | with_reducible refine Gr.trans ?_ (by assumption))))).app (hT2.gr ((Gr.refl _).alloc _)) hgrow hown
       have hgw3 : Gr w w3 := Below.grown ((hg0.trans hg1).trans (Gr.trans (Gr.alloc (Gr.refl w1) _) (hg2.alloc _))) hgrow (Gr.trans (hg0.trans hg1) (Gr.trans (Gr.alloc (Gr.refl w1) _) (hg2.alloc _))).size (fun k hk => by have := ownsRow_base hT.row hk; simp at this; omega))
    | (go_at_call 41; refine (rbroken_walk HC3.out hn (by simp; omega) (hr.gr hgw3) hA (by have := hgw3.size; have := hg2.size; have := hgrow.size; simp at *; omega)).mono ?_
       rintro e w4 ⟨v', qs', nx', rfl, hT', hu', hnx'⟩
       obtain ⟨ta', tc', rfl⟩ := row_form hT'.row
       have hR4 := (hu'.block w.heap.size (blk_lt hR3) (fun hm => row_ne hA.row hR3 (by decide) (by simpa using hm))).trans hR3
       obtain ⟨o0, o1, of⟩ := cells2 hR4))
  refine bodyPost_ret (v := .agg #[.slice ta' (brokenR (l.drop n3) (hr0.toks ++ g.toks)).1.length tc', .int .i64 nx']) (by simp [results, Try.results23, go_sem, *]) rfl ?_
  rw [HRS3.out]
  refine .mk hT' hR4 (hgw3.upd hu' (fun k hk => ?_)) (by omega) ?_ rfl
  · have := ownsRow_base hA.row (k := k) (by simpa using hk); omega
  · rcases hnx' with hx | ⟨m, h1, h2, h3, h4⟩
    · exact .inl hx
    · exact .inr ⟨m, h1, h2, by omega, h4⟩

end
end Go.Proofs.Ytgbmjlajheeciaa
