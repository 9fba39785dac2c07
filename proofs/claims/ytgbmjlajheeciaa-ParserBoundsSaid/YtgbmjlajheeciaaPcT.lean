/-
  The document's sequence, walked: one with numbers, ended: told or not.
-/
import Derived.Test.YtgbmjlajheeciaaPcQ
namespace Go.Proofs.Ytgbmjlajheeciaa
set_option linter.unusedSimpArgs false
set_option linter.unusedVariables false
open Go.RowKit

section
variable {w : World} {a : Option Addr} {n cap at_ : Nat} {l : List Int}

set_option maxRecDepth 100000 in
set_option maxHeartbeats 2000000 in
theorem rseq_num4f {c : Int} {b2 : List Int} {c2 : Int} (hl : ∀ c ∈ l, 0 ≤ c ∧ c < 256) (hn : n ≤ 80000) (hat : at_ ≤ n) (hr : Rd w a n (bcells l)) (he : (hdr 48 (l.drop at_)).ended = 1) (hbc : (hdr 48 (l.drop at_)).bytes = [c]) (hk : opKind c ≠ 0 ∧ opKind c ≤ 5) (he2 : (hdr 64 (hdr 48 (l.drop at_)).rest).ended = 1 ∧ (hdr 64 (hdr 48 (l.drop at_)).rest).bytes = b2 ++ [c2]) (hkk4 : opKind c ≠ 5) (hgb : (parseR (opKind c) b2 c2).2 = false) :
    Calls Try.prog 23 #[.slice a n cap, .int .i64 (at_ : Int)] w (SeqTo w l at_ (seqR (l.drop at_))) := by
  have hs : seqR (l.drop at_) = ((hdr 48 (l.drop at_)).toks ++ (hdr 64 (hdr 48 (l.drop at_)).rest).toks, some (hdr 64 (hdr 48 (l.drop at_)).rest).rest) := by
    have h5 : ¬ 5 < opKind c := by omega
    simp only [seqR, he, hbc]
    simp [hk.1, h5, he2.1, he2.2, hkk4, hgb]
  have hln : l.length = n := by simpa [bcells] using hr.1
  have htl : (hdr 48 (l.drop at_)).toks.length ≤ 100000 := by
    have h1 := (hdr_props 48 (l.drop at_) fun c hc => hl c (List.mem_of_mem_drop hc)).2.2.2.2.1
    rw [List.length_drop] at h1; omega
  rw [hs]
  have hR := heap_alloc_new w (.cells #[.slice none 0 0, .int .i64 0] 50)
  have hg0 := (Gr.refl w).alloc (.cells #[.slice none 0 0, .int .i64 0] 50)
  have hcon := rheader_last (b := []) (cap := cap) hl hn hat (hr.gr hg0) he hbc
  obtain ⟨hr0, hh⟩ : ∃ h, h = hdr 48 (l.drop at_) := ⟨_, rfl⟩
  rw [← hh] at hcon he hbc htl he2 ⊢
  obtain ⟨g, hgg⟩ : ∃ g, g = hdr 64 hr0.rest := ⟨_, rfl⟩
  rw [← hgg] at he2 ⊢
  have H1 := Lib.hid hs
  have H2 := Lib.hid he
  have H3 := Lib.hid hh
  have H4 := Lib.hid hbc
  have H5 := Lib.hid hl
  have H6 := Lib.hid hln
  have H7 := Lib.hid hgg
  have H8 := Lib.hid he2
  clear hs he hh hbc hl hln hgg he2
  have hbg := rbegun_any c
  obtain ⟨kd, hkd⟩ : ∃ kd, kd = opKind c := ⟨_, rfl⟩
  rw [← hkd] at hbg hk hkk4 hgb
  try rw [← hkd]
  have HK := Lib.hid hkd
  clear hkd
  obtain ⟨hk1, hk2⟩ := hk
  have hk0 : (kd == 0) = false := by simpa using hk1
  have hk5 : ¬ 5 < kd := by omega
  have hgt : ∀ n2 : Nat, hr0.rest = l.drop n2 → g.toks.length ≤ 100000 := fun n2 h2 => by
    have h1 := (hdr_props 64 (l.drop n2) fun c hc => H5.out c (List.mem_of_mem_drop hc)).2.2.2.2.1
    rw [← h2, ← H7.out] at h1
    rw [h2, List.length_drop] at h1
    have := H6.out
    omega
  have HGT := Lib.hid hgt
  clear hk1 hgt
  obtain ⟨pg, hpg⟩ : ∃ pg, pg = parseR kd b2 c2 := ⟨_, rfl⟩
  rw [← hpg] at hgb
  try rw [← hpg]
  have HP := Lib.hid hpg
  clear hpg
  have hb2r : ∀ n2 : Nat, hr0.rest = l.drop n2 → (∀ x ∈ b2, 0 ≤ x ∧ x < 256) ∧ b2.length ≤ 80000 := fun n2 h2 => by
    have h1 := (hdr_props 64 (l.drop n2) fun c hc => H5.out c (List.mem_of_mem_drop hc)).2.2
    rw [← h2, ← H7.out, H8.out.2] at h1
    refine ⟨fun x hx => ?_, ?_⟩
    · have := h1.1 x (by simp [hx]); omega
    · have h3 := h1.2.1
      rw [h2, List.length_drop, List.length_append] at h3
      have := H6.out
      omega
  obtain ⟨n2', hn2'⟩ : ∃ n2, hr0.rest = l.drop n2 := by rw [H3.out]; exact hdr_rest_drop 48 l at_
  obtain ⟨hb2r1, hb28⟩ := hb2r n2' hn2'
  have H9 := Lib.hid hb2r1
  clear hb2r hn2' hb2r1
  have hgd := hgb
  have hq5 : (kd == 5) = false := by simpa using hkk4
  have HK4 := Lib.hid hkk4
  clear hkk4 hgb
  go_enter Try.func23, Try.ntmps23
  go_wp2_with (first
    | (go_at_call 40; (with_reducible refine hcon.mono ?_); rintro e w1 ⟨ta, tc, qs, gb, bc, n2, rfl, hT, hq, hby, hrs, ha2, hn2, hg1⟩; have hR1 := hg1.blk hR; obtain ⟨r0, r1, rf⟩ := cells2 hR1; have hz1 := blk_lt hR1; obtain ⟨hcc, hgz, hbcap, hcells⟩ := last_cells hby; have hgtl := HGT.out n2 hrs; have HRS := Lib.hid hrs; have HCL := Lib.hid hcells; clear hrs hcells; simp only [List.length_nil] at hcc)
    | (go_at_call 42; (with_reducible refine (hbg _).mono ?_); rintro e w' ⟨rfl, rfl⟩)
    | (go_at_call 40; refine (rheader_leq (g := g) (b := b2) (c := c2) (by rw [← HRS.out]; exact H7.out) H5.out hn (by have := H6.out; omega) (hr.gr ((hg0.trans hg1).alloc _)) H8.out.1 H8.out.2).mono ?_; rintro e w2 ⟨ta2, tc2, qs2, gb2, bc2, n3, rfl, hT2, hq2, hby2, hrs3, ha3, hn3, hg2⟩; obtain ⟨v0, v1, v2, v3, vf⟩ := cells4 hg2.keep; have hz2 := hg2.lt; have hR2 := hg2.blk (((Gr.refl _).alloc _).blk hR1); obtain ⟨u0, u1, uf⟩ := cells2 hR2; have HRS3 := Lib.hid hrs3; clear hrs3)
    | (at_builtin; refine wpList_appRow rfl _ _ _ rfl 52 _ 6 80 (w.heap.size + 1) _ Try.underlying25 rtoken_info rfl (by omega) (by omega) _ _ _ _ _ _ rfl rfl (ownsRow_gr (ownsRow_mono hT.row (by simp)) (by (repeat (first | with_reducible exact Gr.refl _ | with_reducible assumption | with_reducible refine Gr.setCell ?_ (by simp; try omega) _ | with_reducible refine Gr.alloc ?_ _ | with_reducible refine Gr.drew ?_ | with_reducible refine Gr.drewN ?_ _ | with_reducible refine Gr.trans ?_ (by assumption))))) (ownsRow_gr hT2.row (by (repeat (first | with_reducible exact Gr.refl _ | with_reducible assumption | with_reducible refine Gr.setCell ?_ (by simp; try omega) _ | with_reducible refine Gr.alloc ?_ _ | with_reducible refine Gr.drew ?_ | with_reducible refine Gr.drewN ?_ _ | with_reducible refine Gr.trans ?_ (by assumption))))) (hT2.one) (by omega) (by have := hg2.size; simp at this; simp; omega) ?_; intro V w3 hown hgrow hV; obtain ⟨va, vc, rfl⟩ := row_form hown
       have hR3 := (hgrow.block w.heap.size (by have := hg2.size; simp at this; simp; omega) (fun e => row_ne hT.row hR1 (by decide) e.symm)).trans (Gr.blk (a := w1) (by (repeat (first | with_reducible exact Gr.refl _ | with_reducible assumption | with_reducible refine Gr.setCell ?_ (by simp; try omega) _ | with_reducible refine Gr.alloc ?_ _ | with_reducible refine Gr.drew ?_ | with_reducible refine Gr.drewN ?_ _ | with_reducible refine Gr.trans ?_ (by assumption)))) hR1)
       obtain ⟨s0, s1, sf⟩ := cells2 hR3
       have hG3 := (hgrow.block w2.heap.size (by simp) (fun e => by have h1 := ownsRow_blk hT.row e.symm; have := hg2.size; simp at this; omega)).trans (heap_alloc_new w2 _)
       obtain ⟨t0, t1, t2, t3, tf⟩ := cells4 hG3
       have hA := ((hT.mono (B' := w.heap.size + 1) (by simp)).gr (w' := w2.alloc _) (by (repeat (first | with_reducible exact Gr.refl _ | with_reducible assumption | with_reducible refine Gr.setCell ?_ (by simp; try omega) _ | with_reducible refine Gr.alloc ?_ _ | with_reducible refine Gr.drew ?_ | with_reducible refine Gr.drewN ?_ _ | with_reducible refine Gr.trans ?_ (by assumption))))).app (hT2.gr ((Gr.refl _).alloc _)) hgrow hown
       have hgw3 : Gr w w3 := Below.grown ((hg0.trans hg1).trans (Gr.trans (Gr.alloc (Gr.refl w1) _) (hg2.alloc _))) hgrow (Gr.trans (hg0.trans hg1) (Gr.trans (Gr.alloc (Gr.refl w1) _) (hg2.alloc _))).size (fun k hk => by have := ownsRow_base hT.row hk; simp at this; omega)
       have hby3 := grown_row hby2 hgrow (ownsRow_gr hT.row (by (repeat (first | with_reducible exact Gr.refl _ | with_reducible assumption | with_reducible refine Gr.setCell ?_ (by simp; try omega) _ | with_reducible refine Gr.alloc ?_ _ | with_reducible refine Gr.drew ?_ | with_reducible refine Gr.drewN ?_ _ | with_reducible refine Gr.trans ?_ (by assumption))))) (by (repeat (first | with_reducible exact Gr.refl _ | with_reducible assumption | with_reducible refine Gr.setCell ?_ (by simp; try omega) _ | with_reducible refine Gr.alloc ?_ _ | with_reducible refine Gr.drew ?_ | with_reducible refine Gr.drewN ?_ _ | with_reducible refine Gr.trans ?_ (by assumption))))
       obtain ⟨hcc3, hgz3, hcap3, hcells3⟩ := last_cells hby3
       have HC3 := Lib.hid hcells3
       clear hcells3)
    | (go_at_call 44; refine (rparse_get hgd HP.out (rparse_walk (m := b2.length) H9.out rfl hb28 hcap3 hgz3 HC3.out)).mono ?_; rintro e w4 ⟨t, pa, pc, rfl, hp, htk, htd, hgood, hg4⟩
       have HTK := Lib.hid htk
       have HTD := Lib.hid htd
       have HGD := Lib.hid hgood
       clear htk htd hgood
       have hR4 := hg4.blk hR3
       have hG4 := hg4.blk hG3
       obtain ⟨l0, l1, lf⟩ := cells2 hR4
       obtain ⟨m0, m1, m2, m3, mf⟩ := cells4 hG4
       have hzR4 := blk_lt hR4
       have hzG4 := blk_lt hG4))
  refine bodyPost_ret (v := .agg #[.slice va (hr0.toks.length + g.toks.length) vc, .int .i64 (n3 : Int)]) (by simp [results, Try.results23, go_sem, *]) rfl ?_
  exact .mk2 (hA.gr hg4) hR4 (hgw3.trans hg4) (by omega) (.inr ⟨n3, rfl, by rw [HRS3.out], by omega, hn3⟩) rfl

set_option maxRecDepth 100000 in
set_option maxHeartbeats 2000000 in
theorem rseq_num4t {c : Int} {b2 : List Int} {c2 : Int} (hl : ∀ c ∈ l, 0 ≤ c ∧ c < 256) (hn : n ≤ 80000) (hat : at_ ≤ n) (hr : Rd w a n (bcells l)) (he : (hdr 48 (l.drop at_)).ended = 1) (hbc : (hdr 48 (l.drop at_)).bytes = [c]) (hk : opKind c ≠ 0 ∧ opKind c ≤ 5) (he2 : (hdr 64 (hdr 48 (l.drop at_)).rest).ended = 1 ∧ (hdr 64 (hdr 48 (l.drop at_)).rest).bytes = b2 ++ [c2]) (hkk4 : opKind c ≠ 5) (hgb : (parseR (opKind c) b2 c2).2 = true) :
    Calls Try.prog 23 #[.slice a n cap, .int .i64 (at_ : Int)] w (SeqTo w l at_ (seqR (l.drop at_))) := by
  have hs : seqR (l.drop at_) = ((hdr 48 (l.drop at_)).toks ++ (hdr 64 (hdr 48 (l.drop at_)).rest).toks ++ [(parseR (opKind c) b2 c2).1], some (hdr 64 (hdr 48 (l.drop at_)).rest).rest) := by
    have h5 : ¬ 5 < opKind c := by omega
    simp only [seqR, he, hbc]
    simp [hk.1, h5, he2.1, he2.2, hkk4, hgb]
  have hln : l.length = n := by simpa [bcells] using hr.1
  have htl : (hdr 48 (l.drop at_)).toks.length ≤ 100000 := by
    have h1 := (hdr_props 48 (l.drop at_) fun c hc => hl c (List.mem_of_mem_drop hc)).2.2.2.2.1
    rw [List.length_drop] at h1; omega
  rw [hs]
  have hR := heap_alloc_new w (.cells #[.slice none 0 0, .int .i64 0] 50)
  have hg0 := (Gr.refl w).alloc (.cells #[.slice none 0 0, .int .i64 0] 50)
  have hcon := rheader_last (b := []) (cap := cap) hl hn hat (hr.gr hg0) he hbc
  obtain ⟨hr0, hh⟩ : ∃ h, h = hdr 48 (l.drop at_) := ⟨_, rfl⟩
  rw [← hh] at hcon he hbc htl he2 ⊢
  obtain ⟨g, hgg⟩ : ∃ g, g = hdr 64 hr0.rest := ⟨_, rfl⟩
  rw [← hgg] at he2 ⊢
  have H1 := Lib.hid hs
  have H2 := Lib.hid he
  have H3 := Lib.hid hh
  have H4 := Lib.hid hbc
  have H5 := Lib.hid hl
  have H6 := Lib.hid hln
  have H7 := Lib.hid hgg
  have H8 := Lib.hid he2
  clear hs he hh hbc hl hln hgg he2
  have hbg := rbegun_any c
  obtain ⟨kd, hkd⟩ : ∃ kd, kd = opKind c := ⟨_, rfl⟩
  rw [← hkd] at hbg hk hkk4 hgb
  try rw [← hkd]
  have HK := Lib.hid hkd
  clear hkd
  obtain ⟨hk1, hk2⟩ := hk
  have hk0 : (kd == 0) = false := by simpa using hk1
  have hk5 : ¬ 5 < kd := by omega
  have hgt : ∀ n2 : Nat, hr0.rest = l.drop n2 → g.toks.length ≤ 100000 := fun n2 h2 => by
    have h1 := (hdr_props 64 (l.drop n2) fun c hc => H5.out c (List.mem_of_mem_drop hc)).2.2.2.2.1
    rw [← h2, ← H7.out] at h1
    rw [h2, List.length_drop] at h1
    have := H6.out
    omega
  have HGT := Lib.hid hgt
  clear hk1 hgt
  obtain ⟨pg, hpg⟩ : ∃ pg, pg = parseR kd b2 c2 := ⟨_, rfl⟩
  rw [← hpg] at hgb
  try rw [← hpg]
  have HP := Lib.hid hpg
  clear hpg
  have hb2r : ∀ n2 : Nat, hr0.rest = l.drop n2 → (∀ x ∈ b2, 0 ≤ x ∧ x < 256) ∧ b2.length ≤ 80000 := fun n2 h2 => by
    have h1 := (hdr_props 64 (l.drop n2) fun c hc => H5.out c (List.mem_of_mem_drop hc)).2.2
    rw [← h2, ← H7.out, H8.out.2] at h1
    refine ⟨fun x hx => ?_, ?_⟩
    · have := h1.1 x (by simp [hx]); omega
    · have h3 := h1.2.1
      rw [h2, List.length_drop, List.length_append] at h3
      have := H6.out
      omega
  obtain ⟨n2', hn2'⟩ : ∃ n2, hr0.rest = l.drop n2 := by rw [H3.out]; exact hdr_rest_drop 48 l at_
  obtain ⟨hb2r1, hb28⟩ := hb2r n2' hn2'
  have H9 := Lib.hid hb2r1
  clear hb2r hn2' hb2r1
  have hgd := hgb
  have hq5 : (kd == 5) = false := by simpa using hkk4
  have HK4 := Lib.hid hkk4
  clear hkk4 hgb
  go_enter Try.func23, Try.ntmps23
  go_wp2_with (first
    | (go_at_call 40; (with_reducible refine hcon.mono ?_); rintro e w1 ⟨ta, tc, qs, gb, bc, n2, rfl, hT, hq, hby, hrs, ha2, hn2, hg1⟩; have hR1 := hg1.blk hR; obtain ⟨r0, r1, rf⟩ := cells2 hR1; have hz1 := blk_lt hR1; obtain ⟨hcc, hgz, hbcap, hcells⟩ := last_cells hby; have hgtl := HGT.out n2 hrs; have HRS := Lib.hid hrs; have HCL := Lib.hid hcells; clear hrs hcells; simp only [List.length_nil] at hcc)
    | (go_at_call 42; (with_reducible refine (hbg _).mono ?_); rintro e w' ⟨rfl, rfl⟩)
    | (go_at_call 40; refine (rheader_leq (g := g) (b := b2) (c := c2) (by rw [← HRS.out]; exact H7.out) H5.out hn (by have := H6.out; omega) (hr.gr ((hg0.trans hg1).alloc _)) H8.out.1 H8.out.2).mono ?_; rintro e w2 ⟨ta2, tc2, qs2, gb2, bc2, n3, rfl, hT2, hq2, hby2, hrs3, ha3, hn3, hg2⟩; obtain ⟨v0, v1, v2, v3, vf⟩ := cells4 hg2.keep; have hz2 := hg2.lt; have hR2 := hg2.blk (((Gr.refl _).alloc _).blk hR1); obtain ⟨u0, u1, uf⟩ := cells2 hR2; have HRS3 := Lib.hid hrs3; clear hrs3)
    | (at_builtin; refine wpList_pushN rfl _ _ _ rfl (w.heap.size + 1) 52 _ 6 80 Try.underlying25 rtoken_info rfl (by omega) (by omega) _ _ _ (tcells t (.slice pa t.params.length pc, .slice none 0 0)) (ownsRow_gr hA4 (by (repeat (first | with_reducible exact Gr.refl _ | with_reducible assumption | with_reducible refine Gr.setCell ?_ (by simp; try omega) _ | with_reducible refine Gr.alloc ?_ _ | with_reducible refine Gr.drew ?_ | with_reducible refine Gr.drewN ?_ _ | with_reducible refine Gr.trans ?_ (by assumption))))) _ rfl rfl (heap_new2 _ _ _) rfl (tok_one _ _ _ _ _ _ _) (by omega) (by simp; omega) ?_; intro g2 cap2 w5 hG5 hown5
       have hR5 := (hG5.new (by simp; omega) (row_ne hA4 hR4 (by decide))).trans (Gr.blk (a := w4) (by (repeat (first | with_reducible exact Gr.refl _ | with_reducible assumption | with_reducible refine Gr.setCell ?_ (by simp; try omega) _ | with_reducible refine Gr.alloc ?_ _ | with_reducible refine Gr.drew ?_ | with_reducible refine Gr.drewN ?_ _ | with_reducible refine Gr.trans ?_ (by assumption)))) hR4)
       have hG5b := (hG5.new (by simp; omega) (row_ne hA4 hG4 (by decide))).trans (Gr.blk (a := w4) (by (repeat (first | with_reducible exact Gr.refl _ | with_reducible assumption | with_reducible refine Gr.setCell ?_ (by simp; try omega) _ | with_reducible refine Gr.alloc ?_ _ | with_reducible refine Gr.drew ?_ | with_reducible refine Gr.drewN ?_ _ | with_reducible refine Gr.trans ?_ (by assumption)))) hG4)
       obtain ⟨o0, o1, of⟩ := cells2 hR5
       obtain ⟨j0, j1, j2, j3, jf⟩ := cells4 hG5b)
    | (at_builtin; refine wpList_appRow rfl _ _ _ rfl 52 _ 6 80 (w.heap.size + 1) _ Try.underlying25 rtoken_info rfl (by omega) (by omega) _ _ _ _ _ _ rfl rfl (ownsRow_gr (ownsRow_mono hT.row (by simp)) (by (repeat (first | with_reducible exact Gr.refl _ | with_reducible assumption | with_reducible refine Gr.setCell ?_ (by simp; try omega) _ | with_reducible refine Gr.alloc ?_ _ | with_reducible refine Gr.drew ?_ | with_reducible refine Gr.drewN ?_ _ | with_reducible refine Gr.trans ?_ (by assumption))))) (ownsRow_gr hT2.row (by (repeat (first | with_reducible exact Gr.refl _ | with_reducible assumption | with_reducible refine Gr.setCell ?_ (by simp; try omega) _ | with_reducible refine Gr.alloc ?_ _ | with_reducible refine Gr.drew ?_ | with_reducible refine Gr.drewN ?_ _ | with_reducible refine Gr.trans ?_ (by assumption))))) (hT2.one) (by omega) (by have := hg2.size; simp at this; simp; omega) ?_; intro V w3 hown hgrow hV; obtain ⟨va, vc, rfl⟩ := row_form hown
       have hR3 := (hgrow.block w.heap.size (by have := hg2.size; simp at this; simp; omega) (fun e => row_ne hT.row hR1 (by decide) e.symm)).trans (Gr.blk (a := w1) (by (repeat (first | with_reducible exact Gr.refl _ | with_reducible assumption | with_reducible refine Gr.setCell ?_ (by simp; try omega) _ | with_reducible refine Gr.alloc ?_ _ | with_reducible refine Gr.drew ?_ | with_reducible refine Gr.drewN ?_ _ | with_reducible refine Gr.trans ?_ (by assumption)))) hR1)
       obtain ⟨s0, s1, sf⟩ := cells2 hR3
       have hG3 := (hgrow.block w2.heap.size (by simp) (fun e => by have h1 := ownsRow_blk hT.row e.symm; have := hg2.size; simp at this; omega)).trans (heap_alloc_new w2 _)
       obtain ⟨t0, t1, t2, t3, tf⟩ := cells4 hG3
       have hA := ((hT.mono (B' := w.heap.size + 1) (by simp)).gr (w' := w2.alloc _) (by (repeat (first | with_reducible exact Gr.refl _ | with_reducible assumption | with_reducible refine Gr.setCell ?_ (by simp; try omega) _ | with_reducible refine Gr.alloc ?_ _ | with_reducible refine Gr.drew ?_ | with_reducible refine Gr.drewN ?_ _ | with_reducible refine Gr.trans ?_ (by assumption))))).app (hT2.gr ((Gr.refl _).alloc _)) hgrow hown
       have hgw3 : Gr w w3 := Below.grown ((hg0.trans hg1).trans (Gr.trans (Gr.alloc (Gr.refl w1) _) (hg2.alloc _))) hgrow (Gr.trans (hg0.trans hg1) (Gr.trans (Gr.alloc (Gr.refl w1) _) (hg2.alloc _))).size (fun k hk => by have := ownsRow_base hT.row hk; simp at this; omega)
       have hby3 := grown_row hby2 hgrow (ownsRow_gr hT.row (by (repeat (first | with_reducible exact Gr.refl _ | with_reducible assumption | with_reducible refine Gr.setCell ?_ (by simp; try omega) _ | with_reducible refine Gr.alloc ?_ _ | with_reducible refine Gr.drew ?_ | with_reducible refine Gr.drewN ?_ _ | with_reducible refine Gr.trans ?_ (by assumption))))) (by (repeat (first | with_reducible exact Gr.refl _ | with_reducible assumption | with_reducible refine Gr.setCell ?_ (by simp; try omega) _ | with_reducible refine Gr.alloc ?_ _ | with_reducible refine Gr.drew ?_ | with_reducible refine Gr.drewN ?_ _ | with_reducible refine Gr.trans ?_ (by assumption))))
       obtain ⟨hcc3, hgz3, hcap3, hcells3⟩ := last_cells hby3
       have HC3 := Lib.hid hcells3
       clear hcells3)
    | (go_at_call 44; refine (rparse_get hgd HP.out (rparse_walk (m := b2.length) H9.out rfl hb28 hcap3 hgz3 HC3.out)).mono ?_; rintro e w4 ⟨t, pa, pc, rfl, hp, htk, htd, hgood, hg4⟩
       have HTK := Lib.hid htk
       have HTD := Lib.hid htd
       have HGD := Lib.hid hgood
       clear htk htd hgood
       have hR4 := hg4.blk hR3
       have hG4 := hg4.blk hG3
       obtain ⟨l0, l1, lf⟩ := cells2 hR4
       obtain ⟨m0, m1, m2, m3, mf⟩ := cells4 hG4
       have hzR4 := blk_lt hR4
       have hzG4 := blk_lt hG4
       have hA4 : w4.ownsRow (w.heap.size + 1) 52 6 (.slice va (hr0.toks.length + g.toks.length) vc) (hr0.toks.length + g.toks.length) (tsCells (hr0.toks ++ g.toks) (qs ++ qs2)) := by have := ownsRow_gr hA.row hg4; simpa using this))
  have hpt := ((hA.gr hg4).gr (w' := (w4.alloc _).alloc _) (by (repeat (first | with_reducible exact Gr.refl _ | with_reducible assumption | with_reducible refine Gr.setCell ?_ (by simp; try omega) _ | with_reducible refine Gr.alloc ?_ _ | with_reducible refine Gr.drew ?_ | with_reducible refine Gr.drewN ?_ _ | with_reducible refine Gr.trans ?_ (by assumption))))).push (t := t) (q := (.slice pa t.params.length pc, .slice none 0 0)) ⟨hp.gr (by (repeat (first | with_reducible exact Gr.refl _ | with_reducible assumption | with_reducible refine Gr.setCell ?_ (by simp; try omega) _ | with_reducible refine Gr.alloc ?_ _ | with_reducible refine Gr.drew ?_ | with_reducible refine Gr.drewN ?_ _ | with_reducible refine Gr.trans ?_ (by assumption)))), by rw [HTD.out]; exact .nil _ _⟩ hG5 (by simpa using hown5)
  refine bodyPost_ret (v := .agg #[.slice (some ⟨g2, 0, none⟩) (hr0.toks.length + g.toks.length + 1) cap2, .int .i64 (n3 : Int)]) (by simp [results, Try.results23, go_sem, *]) rfl ?_
  have htp := HGD.out (by first | rfl | trivial)
  rw [← htp]
  refine .mk hpt hR5 (hG5.gr ((hgw3.trans hg4).trans (by (repeat (first | with_reducible exact Gr.refl _ | with_reducible assumption | with_reducible refine Gr.setCell ?_ (by simp; try omega) _ | with_reducible refine Gr.alloc ?_ _ | with_reducible refine Gr.drew ?_ | with_reducible refine Gr.drewN ?_ _ | with_reducible refine Gr.trans ?_ (by assumption))))) fun k hk => by have := ownsRow_base hA4 hk; omega) (by omega) (.inr ⟨n3, rfl, by rw [HRS3.out], by omega, hn3⟩) rfl

end
end Go.Proofs.Ytgbmjlajheeciaa
