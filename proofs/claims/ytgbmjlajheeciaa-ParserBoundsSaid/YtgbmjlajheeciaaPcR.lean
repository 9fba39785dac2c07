/-
  The document's sequence, walked: one with numbers, ended.
-/
import Derived.Test.YtgbmjlajheeciaaPcQ
namespace Go.Proofs.Ytgbmjlajheeciaa
set_option linter.unusedSimpArgs false
set_option linter.unusedVariables false
open Go.RowKit

section
variable {w : World} {a : Option Addr} {n cap at_ : Nat} {l : List Int}

set_option maxRecDepth 100000 in
set_option maxHeartbeats 2000000 in
theorem rseq_num5 {c : Int} {b2 : List Int} {c2 : Int} (hl : ∀ c ∈ l, 0 ≤ c ∧ c < 256) (hn : n ≤ 80000) (hat : at_ ≤ n) (hr : Rd w a n (bcells l)) (he : (hdr 48 (l.drop at_)).ended = 1) (hbc : (hdr 48 (l.drop at_)).bytes = [c]) (hk : opKind c ≠ 0 ∧ opKind c ≤ 5) (he2 : (hdr 64 (hdr 48 (l.drop at_)).rest).ended = 1 ∧ (hdr 64 (hdr 48 (l.drop at_)).rest).bytes = b2 ++ [c2]) (hkk5 : opKind c = 5) :
    Calls Try.prog 23 #[.slice a n cap, .int .i64 (at_ : Int)] w (SeqTo w l at_ (seqR (l.drop at_))) := by
  have hs : seqR (l.drop at_) = (let p := parseR (opKind c) b2 c2; if opKind c = 5 then strR p.1 p.2 (hdr 64 (hdr 48 (l.drop at_)).rest).rest ((hdr 48 (l.drop at_)).toks ++ (hdr 64 (hdr 48 (l.drop at_)).rest).toks) else (if p.2 = true then (hdr 48 (l.drop at_)).toks ++ (hdr 64 (hdr 48 (l.drop at_)).rest).toks ++ [p.1] else (hdr 48 (l.drop at_)).toks ++ (hdr 64 (hdr 48 (l.drop at_)).rest).toks, some (hdr 64 (hdr 48 (l.drop at_)).rest).rest)) := by
    have h5 : ¬ 5 < opKind c := by omega
    simp only [seqR, he, hbc]
    simp [hk.1, h5, he2.1, he2.2]
  have hln : l.length = n := by simpa [bcells] using hr.1
  have htl : (hdr 48 (l.drop at_)).toks.length ≤ 100000 := by
    have h1 := (hdr_props 48 (l.drop at_) fun c hc => hl c (List.mem_of_mem_drop hc)).2.2.2.2.1
    rw [List.length_drop] at h1; omega
  rw [hs]
  have hR := heap_alloc_new w (.cells #[.slice none 0 0, .int .i64 0] 50)
  have hg0 := (Gr.refl w).alloc (.cells #[.slice none 0 0, .int .i64 0] 50)
  have hcon := rheader_last (b := []) (cap := cap) hl hn hat (hr.gr hg0) he hbc
  obtain ⟨hr0, hh⟩ : ∃ h, h = hdr 48 (l.drop at_) := ⟨_, rfl⟩
  rw [← hh] at hcon he hbc htl he2 ⊢
  obtain ⟨g, hgg⟩ : ∃ g, g = hdr 64 hr0.rest := ⟨_, rfl⟩
  rw [← hgg] at he2 ⊢
  have H1 := Lib.hid hs
  have H2 := Lib.hid he
  have H3 := Lib.hid hh
  have H4 := Lib.hid hbc
  have H5 := Lib.hid hl
  have H6 := Lib.hid hln
  have H7 := Lib.hid hgg
  have H8 := Lib.hid he2
  clear hs he hh hbc hl hln hgg he2
  have hbg := rbegun_any c
  obtain ⟨kd, hkd⟩ : ∃ kd, kd = opKind c := ⟨_, rfl⟩
  rw [← hkd] at hbg hk hkk5
  try rw [← hkd]
  have HK := Lib.hid hkd
  clear hkd
  obtain ⟨hk1, hk2⟩ := hk
  have hk0 : (kd == 0) = false := by simpa using hk1
  have hk5 : ¬ 5 < kd := by omega
  have hgt : ∀ n2 : Nat, hr0.rest = l.drop n2 → g.toks.length ≤ 100000 := fun n2 h2 => by
    have h1 := (hdr_props 64 (l.drop n2) fun c hc => H5.out c (List.mem_of_mem_drop hc)).2.2.2.2.1
    rw [← h2, ← H7.out] at h1
    rw [h2, List.length_drop] at h1
    have := H6.out
    omega
  have HGT := Lib.hid hgt
  clear hk1 hgt
  obtain ⟨pg, hpg⟩ : ∃ pg, pg = parseR kd b2 c2 := ⟨_, rfl⟩
  try rw [← hpg]
  have HP := Lib.hid hpg
  clear hpg
  have hb2r : ∀ n2 : Nat, hr0.rest = l.drop n2 → (∀ x ∈ b2, 0 ≤ x ∧ x < 256) ∧ b2.length ≤ 80000 := fun n2 h2 => by
    have h1 := (hdr_props 64 (l.drop n2) fun c hc => H5.out c (List.mem_of_mem_drop hc)).2.2
    rw [← h2, ← H7.out, H8.out.2] at h1
    refine ⟨fun x hx => ?_, ?_⟩
    · have := h1.1 x (by simp [hx]); omega
    · have h3 := h1.2.1
      rw [h2, List.length_drop, List.length_append] at h3
      have := H6.out
      omega
  obtain ⟨n2', hn2'⟩ : ∃ n2, hr0.rest = l.drop n2 := by rw [H3.out]; exact hdr_rest_drop 48 l at_
  obtain ⟨hb2r1, hb28⟩ := hb2r n2' hn2'
  have H9 := Lib.hid hb2r1
  clear hb2r hn2' hb2r1
  obtain ⟨b, hgd⟩ : ∃ b, pg.2 = b := ⟨_, rfl⟩
  have HK5 := Lib.hid hkk5
  have hq5 : (kd == 5) = true := by simpa using hkk5
  clear hkk5
  go_enter Try.func23, Try.ntmps23
  go_wp2_with (first
    | (go_at_call 40; (with_reducible refine hcon.mono ?_); rintro e w1 ⟨ta, tc, qs, gb, bc, n2, rfl, hT, hq, hby, hrs, ha2, hn2, hg1⟩; have hR1 := hg1.blk hR; obtain ⟨r0, r1, rf⟩ := cells2 hR1; have hz1 := blk_lt hR1; obtain ⟨hcc, hgz, hbcap, hcells⟩ := last_cells hby; have hgtl := HGT.out n2 hrs; have HRS := Lib.hid hrs; have HCL := Lib.hid hcells; clear hrs hcells; simp only [List.length_nil] at hcc)
    | (go_at_call 42; (with_reducible refine (hbg _).mono ?_); rintro e w' ⟨rfl, rfl⟩)
    | (go_at_call 40; refine (rheader_leq (g := g) (b := b2) (c := c2) (by rw [← HRS.out]; exact H7.out) H5.out hn (by have := H6.out; omega) (hr.gr ((hg0.trans hg1).alloc _)) H8.out.1 H8.out.2).mono ?_; rintro e w2 ⟨ta2, tc2, qs2, gb2, bc2, n3, rfl, hT2, hq2, hby2, hrs3, ha3, hn3, hg2⟩; obtain ⟨v0, v1, v2, v3, vf⟩ := cells4 hg2.keep; have hz2 := hg2.lt; have hR2 := hg2.blk (((Gr.refl _).alloc _).blk hR1); obtain ⟨u0, u1, uf⟩ := cells2 hR2; have HRS3 := Lib.hid hrs3; clear hrs3)
    | (at_builtin; refine wpList_appRow rfl _ _ _ rfl 52 _ 6 80 (w.heap.size + 1) _ Try.underlying25 rtoken_info rfl (by omega) (by omega) _ _ _ _ _ _ rfl rfl (ownsRow_gr (ownsRow_mono hT.row (by simp)) (by (repeat (first | with_reducible exact Gr.refl _ | with_reducible assumption | with_reducible refine Gr.setCell ?_ (by simp; try omega) _ | with_reducible refine Gr.alloc ?_ _ | with_reducible refine Gr.drew ?_ | with_reducible refine Gr.drewN ?_ _ | with_reducible refine Gr.trans ?_ (by assumption))))) (ownsRow_gr hT2.row (by (repeat (first | with_reducible exact Gr.refl _ | with_reducible assumption | with_reducible refine Gr.setCell ?_ (by simp; try omega) _ | with_reducible refine Gr.alloc ?_ _ | with_reducible refine Gr.drew ?_ | with_reducible refine Gr.drewN ?_ _ | with_reducible refine Gr.trans ?_ (by assumption))))) (hT2.one) (by omega) (by have := hg2.size; simp at this; simp; omega) ?_; intro V w3 hown hgrow hV; obtain ⟨va, vc, rfl⟩ := row_form hown
       have hR3 := (hgrow.block w.heap.size (by have := hg2.size; simp at this; simp; omega) (fun e => row_ne hT.row hR1 (by decide) e.symm)).trans (Gr.blk (a := w1) (by (repeat (first | with_reducible exact Gr.refl _ | with_reducible assumption | with_reducible refine Gr.setCell ?_ (by simp; try omega) _ | with_reducible refine Gr.alloc ?_ _ | with_reducible refine Gr.drew ?_ | with_reducible refine Gr.drewN ?_ _ | with_reducible refine Gr.trans ?_ (by assumption)))) hR1)
       obtain ⟨s0, s1, sf⟩ := cells2 hR3
       have hG3 := (hgrow.block w2.heap.size (by simp) (fun e => by have h1 := ownsRow_blk hT.row e.symm; have := hg2.size; simp at this; omega)).trans (heap_alloc_new w2 _)
       obtain ⟨t0, t1, t2, t3, tf⟩ := cells4 hG3
       have hA := ((hT.mono (B' := w.heap.size + 1) (by simp)).gr (w' := w2.alloc _) (by (repeat (first | with_reducible exact Gr.refl _ | with_reducible assumption | with_reducible refine Gr.setCell ?_ (by simp; try omega) _ | with_reducible refine Gr.alloc ?_ _ | with_reducible refine Gr.drew ?_ | with_reducible refine Gr.drewN ?_ _ | with_reducible refine Gr.trans ?_ (by assumption))))).app (hT2.gr ((Gr.refl _).alloc _)) hgrow hown
       have hgw3 : Gr w w3 := Below.grown ((hg0.trans hg1).trans (Gr.trans (Gr.alloc (Gr.refl w1) _) (hg2.alloc _))) hgrow (Gr.trans (hg0.trans hg1) (Gr.trans (Gr.alloc (Gr.refl w1) _) (hg2.alloc _))).size (fun k hk => by have := ownsRow_base hT.row hk; simp at this; omega)
       have hby3 := grown_row hby2 hgrow (ownsRow_gr hT.row (by (repeat (first | with_reducible exact Gr.refl _ | with_reducible assumption | with_reducible refine Gr.setCell ?_ (by simp; try omega) _ | with_reducible refine Gr.alloc ?_ _ | with_reducible refine Gr.drew ?_ | with_reducible refine Gr.drewN ?_ _ | with_reducible refine Gr.trans ?_ (by assumption))))) (by (repeat (first | with_reducible exact Gr.refl _ | with_reducible assumption | with_reducible refine Gr.setCell ?_ (by simp; try omega) _ | with_reducible refine Gr.alloc ?_ _ | with_reducible refine Gr.drew ?_ | with_reducible refine Gr.drewN ?_ _ | with_reducible refine Gr.trans ?_ (by assumption))))
       obtain ⟨hcc3, hgz3, hcap3, hcells3⟩ := last_cells hby3
       have HC3 := Lib.hid hcells3
       clear hcells3)
    | (go_at_call 44; refine (rparse_get hgd HP.out (rparse_walk (m := b2.length) H9.out rfl hb28 hcap3 hgz3 HC3.out)).mono ?_; rintro e w4 ⟨t, pa, pc, rfl, hp, htk, htd, hgood, hg4⟩
       have HTK := Lib.hid htk
       have HTD := Lib.hid htd
       have HGD := Lib.hid hgood
       clear htk htd hgood
       have hR4 := hg4.blk hR3
       have hG4 := hg4.blk hG3
       obtain ⟨l0, l1, lf⟩ := cells2 hR4
       obtain ⟨m0, m1, m2, m3, mf⟩ := cells4 hG4
       have hzR4 := blk_lt hR4
       have hzG4 := blk_lt hG4)
    | (go_at_call 43; refine (rstr_walk (t := t) (good := b) H5.out hn (by have := H6.out; omega) (by simp; omega) (hr.gr ((hgw3.trans hg4).alloc _)) ((hA.gr hg4).gr ((Gr.refl _).alloc _)) (by simp; omega) HTD.out (hp.gr ((Gr.refl _).alloc _))).mono ?_
       rintro e w5 ⟨v', qs', nx', rfl, hT', hu', hnx'⟩
       obtain ⟨ta', tc', rfl⟩ := row_form hT'.row
       have hR5 := (hu'.block w.heap.size (by simp; omega) (fun hm => row_ne hA.row hR3 (by decide) (by simpa using hm))).trans (((Gr.refl _).alloc _).blk hR4)
       obtain ⟨o0, o1, of⟩ := cells2 hR5))
  refine bodyPost_ret (v := .agg #[.slice ta' (strR t b (l.drop n3) (hr0.toks ++ g.toks)).1.length tc', .int .i64 nx']) (by simp [results, Try.results23, go_sem, *]) rfl ?_
  have hkk : pg.1.kind = kd := by rw [HP.out]; rfl
  have e := str_good hgd HGD.out HTK.out hkk (l.drop n3) (hr0.toks ++ g.toks)
  rw [hgd] at e
  rw [HRS3.out, ← e]
  refine .mk hT' hR5 (((hgw3.trans hg4).alloc _).upd hu' (fun k hk => ?_)) (by omega) ?_ rfl
  · have := ownsRow_base hA.row (k := k) (by simpa using hk); omega
  · rcases hnx' with hx | ⟨m, h1, h2, h3, h4⟩
    · exact .inl hx
    · exact .inr ⟨m, h1, h2, by omega, h4⟩

end
end Go.Proofs.Ytgbmjlajheeciaa
