/-
  The document's sequence, walked: where its header has not ended by a last byte.
  The document's sequence, walked: one of an escape alone; one that begins a string.
  The document's sequence, walked: one of an escape alone that is told.
  The document's sequence, walked: one that begins a string.
-/
import Derived.Test.YtgbmjlajheeciaaPcK
namespace Go.Proofs.Ytgbmjlajheeciaa
set_option linter.unusedSimpArgs false
set_option linter.unusedVariables false
section
open Go.RowKit

theorem ownsRow_mono {w : World} {B B' e size n : Nat} {v : Value} {xs : List Value} (h : w.ownsRow B e size v n xs) (hb : B' ≤ B) : w.ownsRow B' e size v n xs := by
  refine ⟨h.1, ?_⟩
  rcases h.2 with h2 | ⟨g, cap, cur, hv, hg, r⟩
  · exact .inl h2
  · exact .inr ⟨g, cap, cur, hv, by omega, r⟩
theorem RTs.mono {w : World} {B B' : Nat} {ts : List Tok} {v : Value} {qs : List (Value × Value)} (h : RTs w B ts v qs) (hb : B' ≤ B) : RTs w B' ts v qs := ⟨ownsRow_mono h.row hb, h.len, h.toks⟩
/-- A result, of tokens that only the call's own memory holds. -/
theorem SeqTo.mk {w w2 W : World} {l : List Int} {lo B : Nat} {r : List Tok × Option (List Int)} {v : Value} {qs : List (Value × Value)} {nx : Int} {c : Array Value} {i j : Nat} {u x : Value} (hT : RTs w2 B r.1 v qs) (hR : w2.heap[w.heap.size]? = some (.cells c 50 (0, 0)))
    (hg : Gr w w2) (hB : w.heap.size ≤ B) (hn : (r.2 = none ∧ nx = -1) ∨ ∃ n : Nat, nx = n ∧ r.2 = some (l.drop n) ∧ lo ≤ n ∧ n ≤ l.length) (hW : W = (w2.setCell ⟨w.heap.size, i, none⟩ u).setCell ⟨w.heap.size, j, none⟩ x) :
    SeqTo w l lo r (.returned (.agg #[v, .int .i64 nx])) W :=
  ⟨v, qs, nx, rfl, by rw [hW]; exact (hT.mono hB).setRR hR i j u x, by rw [hW]; exact (hg.setCell (Nat.le_refl _) _).setCell (Nat.le_refl _) _, hn⟩

theorem SeqTo.mk2 {w w2 W : World} {l : List Int} {lo B : Nat} {r : List Tok × Option (List Int)} {v : Value} {qs : List (Value × Value)} {nx : Int} {c : Array Value} {i j : Nat} {u x : Value} {o : Obj} (hT : RTs w2 B r.1 v qs) (hR : w2.heap[w.heap.size]? = some (.cells c 50 (0, 0)))
    (hg : Gr w w2) (hB : w.heap.size ≤ B) (hn : (r.2 = none ∧ nx = -1) ∨ ∃ n : Nat, nx = n ∧ r.2 = some (l.drop n) ∧ lo ≤ n ∧ n ≤ l.length) (hW : W = ((w2.setCell ⟨w.heap.size, i, none⟩ u).setCell ⟨w.heap.size, j, none⟩ x).alloc o) :
    SeqTo w l lo r (.returned (.agg #[v, .int .i64 nx])) W :=
  ⟨v, qs, nx, rfl, by rw [hW]; exact ((hT.mono hB).setRR hR i j u x).gr ((Gr.refl _).alloc _), by rw [hW]; exact ((hg.setCell (Nat.le_refl _) _).setCell (Nat.le_refl _) _).alloc _, hn⟩

section
variable {w : World} {a : Option Addr} {n cap at_ : Nat} {l : List Int}

set_option maxRecDepth 100000 in
set_option maxHeartbeats 2000000 in
theorem rseq_0 (hl : ∀ c ∈ l, 0 ≤ c ∧ c < 256) (hn : n ≤ 80000) (hat : at_ ≤ n) (hr : Rd w a n (bcells l)) (he : (hdr 48 (l.drop at_)).ended = 0) :
    Calls Try.prog 23 #[.slice a n cap, .int .i64 (at_ : Int)] w (SeqTo w l at_ (seqR (l.drop at_))) := by
  have hs : seqR (l.drop at_) = ((hdr 48 (l.drop at_)).toks, none) := by simp [seqR, he]
  rw [hs]
  have hR := heap_alloc_new w (.cells #[.slice none 0 0, .int .i64 0] 50)
  have hg0 := (Gr.refl w).alloc (.cells #[.slice none 0 0, .int .i64 0] 50)
  have hcon := rheader_walk (cap := cap) 48 hl hn hat (hr.gr hg0)
  obtain ⟨h, hh⟩ : ∃ h, h = hdr 48 (l.drop at_) := ⟨_, rfl⟩
  rw [← hh] at hcon he ⊢
  have H1 := Lib.hid hs
  have H2 := Lib.hid he
  have H3 := Lib.hid hh
  clear hs he hh
  go_enter Try.func23, Try.ntmps23
  go_wp2_with (go_at_call 40; refine hcon.mono ?_; intro e w1 hH; obtain ⟨tv, qs, bv, nx, rfl, hT, hq, hby, hnx, hg1⟩ := hH.get H2.out; obtain ⟨ta, tc, rfl⟩ := row_form hT.row; obtain ⟨ba, bc, rfl⟩ := row_form hby; have hR1 := hg1.blk hR; obtain ⟨r0, r1, rf⟩ := cells2 hR1; have hz1 := blk_lt hR1)
  refine bodyPost_ret (v := .agg #[.slice ta h.toks.length tc, .int .i64 (-1)]) (by simp [results, Try.results23, go_sem, *]) rfl ?_
  exact .mk2 hT hR1 (hg0.trans hg1) (by simp) (.inl ⟨rfl, rfl⟩) rfl

set_option maxRecDepth 100000 in
set_option maxHeartbeats 2000000 in
theorem rseq_2 (hl : ∀ c ∈ l, 0 ≤ c ∧ c < 256) (hn : n ≤ 80000) (hat : at_ ≤ n) (hr : Rd w a n (bcells l)) (he : (hdr 48 (l.drop at_)).ended = 2) :
    Calls Try.prog 23 #[.slice a n cap, .int .i64 (at_ : Int)] w (SeqTo w l at_ (seqR (l.drop at_))) := by
  have hs : seqR (l.drop at_) = brokenR (hdr 48 (l.drop at_)).rest (hdr 48 (l.drop at_)).toks := by simp [seqR, he]
  have hpr := hdr_props 48 (l.drop at_) fun c hc => hl c (List.mem_of_mem_drop hc)
  have hln : l.length = n := by simpa [bcells] using hr.1
  rw [hs]
  have hR := heap_alloc_new w (.cells #[.slice none 0 0, .int .i64 0] 50)
  have hg0 := (Gr.refl w).alloc (.cells #[.slice none 0 0, .int .i64 0] 50)
  have hcon := rheader_walk (cap := cap) 48 hl hn hat (hr.gr hg0)
  obtain ⟨h, hh⟩ : ∃ h, h = hdr 48 (l.drop at_) := ⟨_, rfl⟩
  rw [← hh] at hcon he hpr ⊢
  have htl : h.toks.length ≤ 200000 := by have := hpr.2.2.2.2.1; rw [List.length_drop] at this; omega
  have hrest := hpr.2.2.2.2.2 he
  have H1 := Lib.hid hs
  have H2 := Lib.hid he
  have H3 := Lib.hid hh
  have H4 := Lib.hid hrest
  clear hs he hh hpr hrest hln
  go_enter Try.func23, Try.ntmps23
  go_wp2_with (first
    | (go_at_call 40; refine hcon.mono ?_; intro e w1 hH; obtain ⟨tv, qs, bv, nx, rfl, hT, hq, hby, hnx, hg1⟩ := hH.get H2.out; obtain ⟨ta, tc, rfl⟩ := row_form hT.row; obtain ⟨ba, bc, rfl⟩ := row_form hby; have hR1 := hg1.blk hR; obtain ⟨r0, r1, rf⟩ := cells2 hR1; have hz1 := blk_lt hR1
       obtain ⟨n2, rfl, hrs, ha2, hn2⟩ := hnx (by decide)
       obtain ⟨c, hc⟩ : ∃ c, l[n2]? = some c := by
         obtain ⟨c, r, hcr⟩ := H4.out
         rw [hrs] at hcr
         exact ⟨c, by have := congrArg (fun x => x[0]?) hcr; simpa using this⟩
       have HRS := Lib.hid hrs
       have HC := Lib.hid hc
       clear hrs hc hnx)
    | (go_at_call 41; refine (rbroken_walk HC.out hn htl (hr.gr ((hg0.trans hg1).alloc _)) (hT.gr ((Gr.refl _).alloc _)) (by simp; omega)).mono ?_
       rintro e w2 ⟨v', qs', nx', rfl, hT', hu', hnx'⟩
       obtain ⟨ta', tc', rfl⟩ := row_form hT'.row
       have hR2 := (hu'.block w.heap.size (by simp; omega) (fun hm => row_ne hT.row hR1 (by decide) (by simpa using hm))).trans (((Gr.refl _).alloc _).blk hR1)
       obtain ⟨s0, s1, sf⟩ := cells2 hR2))
  refine bodyPost_ret (v := .agg #[.slice ta' (brokenR (l.drop n2) h.toks).1.length tc', .int .i64 nx']) (by simp [results, Try.results23, go_sem, *]) rfl ?_
  rw [HRS.out]
  refine .mk hT' hR2 (((hg0.trans hg1).alloc _).upd hu' (fun k hk => ?_)) (by simp) ?_ rfl
  · have := ownsRow_base hT.row (k := k) (by simpa using hk); simp at this; omega
  · rcases hnx' with hx | ⟨m, h1, h2, h3, h4⟩
    · exact .inl hx
    · exact .inr ⟨m, h1, h2, by omega, h4⟩
end
end
section
open Go.RowKit

section
variable {w : World} {a : Option Addr} {n cap at_ : Nat} {l : List Int}

set_option maxRecDepth 100000 in
set_option maxHeartbeats 1000000 in
theorem rseq_esc {b : List Int} {c : Int} (hl : ∀ c ∈ l, 0 ≤ c ∧ c < 256) (hn : n ≤ 80000) (hat : at_ ≤ n) (hr : Rd w a n (bcells l)) (he : (hdr 48 (l.drop at_)).ended = 1) (hbc : (hdr 48 (l.drop at_)).bytes = b ++ [c]) (hk : b ≠ [] ∨ opKind c = 0) (htell : ¬ (b.length ≤ 3 ∧ (b ≠ [] ∨ c ≠ 92))) :
    Calls Try.prog 23 #[.slice a n cap, .int .i64 (at_ : Int)] w (SeqTo w l at_ (seqR (l.drop at_))) := by
  have hs : seqR (l.drop at_) = ((hdr 48 (l.drop at_)).toks, some (hdr 48 (l.drop at_)).rest) := by
    simp only [seqR, he, hbc]
    simp [hk, htell]
  rw [hs]
  have hb8 : b.length ≤ 100000 := by
    have h1 := (hdr_props 48 (l.drop at_) fun c hc => hl c (List.mem_of_mem_drop hc)).2.2.2.1
    have hln : l.length = n := by simpa [bcells] using hr.1
    rw [hbc] at h1
    simp at h1; omega
  have hR := heap_alloc_new w (.cells #[.slice none 0 0, .int .i64 0] 50)
  have hg0 := (Gr.refl w).alloc (.cells #[.slice none 0 0, .int .i64 0] 50)
  have hcon := rheader_walk (cap := cap) 48 hl hn hat (hr.gr hg0)
  obtain ⟨h, hh⟩ : ∃ h, h = hdr 48 (l.drop at_) := ⟨_, rfl⟩
  rw [← hh] at hcon he hbc ⊢
  have H1 := Lib.hid hs
  have H2 := Lib.hid he
  have H3 := Lib.hid hh
  have H4 := Lib.hid hbc
  clear hs he hh hbc
  have hbg := rbegun_any c
  obtain ⟨kd, hkd⟩ : ∃ kd, kd = opKind c := ⟨_, rfl⟩
  rw [← hkd] at hbg hk
  have hcase : (b = [] ∧ kd = 0 ∧ c = 92) ∨ (3 < b.length) := by
    by_cases hb : b = []
    · subst hb
      simp at hk htell
      exact .inl ⟨rfl, hk, htell⟩
    · by_cases h3 : b.length ≤ 3
      · exact absurd ⟨h3, .inl hb⟩ htell
      · exact .inr (by omega)
  clear hk htell
  rcases hcase with ⟨hb, rfl, rfl⟩ | h3
  · subst hb
    have HK := Lib.hid hkd
    clear hkd
    go_enter Try.func23, Try.ntmps23
    go_wp2_with (first
      | (go_at_call 40; refine hcon.mono ?_; intro e w1 hH; obtain ⟨tv, qs, bv, nx, rfl, hT, hq, hby, hnx, hg1⟩ := hH.get H2.out; obtain ⟨ta, tc, rfl⟩ := row_form hT.row; rw [H4.out] at hby; obtain ⟨ba, bc, rfl⟩ := row_form hby; have hR1 := hg1.blk hR; obtain ⟨r0, r1, rf⟩ := cells2 hR1; have hz1 := blk_lt hR1
         obtain ⟨n2, rfl, hrs, ha2, hn2⟩ := hnx (by decide)
         obtain ⟨gb, hgb⟩ : ∃ gb, ba = some ⟨gb, 0, none⟩ := by
           rcases hby.2 with ⟨hv, _⟩ | ⟨g, cp, cur, hv, _⟩
           · cases hv
           · injection hv with h1; exact ⟨g, h1⟩
         subst hgb
         have hcc := (HasRow.of_own hby).cells (g := gb) rfl 0 (.int .u8 92) rfl
         have hgz := lt_of_cell hcc
         have HRS := Lib.hid hrs
         clear hrs hnx)
      | (go_at_call 42; refine (hbg _).mono ?_; rintro e w' ⟨rfl, rfl⟩))
    refine bodyPost_ret (v := .agg #[.slice ta h.toks.length tc, .int .i64 (n2 : Int)]) (by simp [results, Try.results23, go_sem, *]) rfl ?_
    exact .mk2 hT hR1 (hg0.trans hg1) (by simp) (.inr ⟨n2, rfl, by rw [HRS.out], by omega, hn2⟩) rfl
  · have h30 : (0 : Int) < (b.length : Int) := by omega
    have h33 : ¬ ((b.length : Int) ≤ 3) := by omega
    have h0n : 0 < b.length := by omega
    have h0m : ¬ b.length ≤ 3 := by omega
    have HK := Lib.hid hkd
    clear hkd
    go_enter Try.func23, Try.ntmps23
    go_wp2_with (first
      | (go_at_call 40; refine hcon.mono ?_; intro e w1 hH; obtain ⟨tv, qs, bv, nx, rfl, hT, hq, hby, hnx, hg1⟩ := hH.get H2.out; obtain ⟨ta, tc, rfl⟩ := row_form hT.row; rw [H4.out, List.length_append, List.length_singleton] at hby; obtain ⟨ba, bc, rfl⟩ := row_form hby; have hR1 := hg1.blk hR; obtain ⟨r0, r1, rf⟩ := cells2 hR1; have hz1 := blk_lt hR1
         obtain ⟨n2, rfl, hrs, ha2, hn2⟩ := hnx (by decide)
         obtain ⟨gb, hgb⟩ : ∃ gb, ba = some ⟨gb, 0, none⟩ := by
           rcases hby.2 with ⟨hv, h0⟩ | ⟨g, cp, cur, hv, _⟩
           · omega
           · injection hv with h1; exact ⟨g, h1⟩
         subst hgb
         have hcc := (HasRow.of_own hby).cells (g := gb) rfl b.length (.int .u8 c) (by simp [bcells])
         have hgz := lt_of_cell hcc
         have HRS := Lib.hid hrs
         clear hrs hnx)
      | (go_at_call 42; refine (hbg _).mono ?_; rintro e w' ⟨rfl, rfl⟩))
    refine bodyPost_ret (v := .agg #[.slice ta h.toks.length tc, .int .i64 (n2 : Int)]) (by simp [results, Try.results23, go_sem, *]) rfl ?_
    exact .mk2 hT hR1 (hg0.trans hg1) (by simp) (.inr ⟨n2, rfl, by rw [HRS.out], by omega, hn2⟩) rfl
end
end
section
open Go.RowKit

theorem RTs.setH {w : World} {B R : Nat} {ts : List Tok} {v : Value} {qs : List (Value × Value)} {c : Array Value} (h : RTs w B ts v qs) (hR : w.heap[R]? = some (.cells c 68 (0, 0))) (i : Nat) (u : Value) : RTs (w.setCell ⟨R, i, none⟩ u) B ts v qs :=
  h.upd (Upd.of_setCell w R i u) (fun k hk _ => by simp at hk; subst hk; exact ⟨_, _, hR, by decide, by decide⟩) (fun k hk => by simp; rintro rfl; exact row_ne h.row hR (by decide) hk)
theorem inter_one (t : Tok) : ∀ v ∈ tcells t (.slice none 0 0, .slice none 0 0), v.oneCell' = true := tok_one t none none 0 0 0 0

/-- A header that has ended by a last byte. -/
def HdLast (w : World) (l : List Int) (at_ : Nat) (h : HR) (b : List Int) (c : Int) (e : Ending) (w1 : World) : Prop :=
  ∃ ta tc qs gb bc n2, e = .returned (.agg #[.slice ta h.toks.length tc, .slice (some ⟨gb, 0, none⟩) (b.length + 1) bc, .int .i64 ((n2 : Nat) : Int), .int .i64 1]) ∧ RTs w1 w.heap.size h.toks (.slice ta h.toks.length tc) qs ∧ NilQ qs ∧
    w1.ownsRow w.heap.size 5 1 (.slice (some ⟨gb, 0, none⟩) (b.length + 1) bc) (b.length + 1) (bcells (b ++ [c])) ∧ h.rest = l.drop n2 ∧ at_ ≤ n2 ∧ n2 ≤ l.length ∧ Gr w w1
theorem rheader_last {w : World} {a : Option Addr} {n cap at_ : Nat} {l b : List Int} {last c : Int} (hl : ∀ c ∈ l, 0 ≤ c ∧ c < 256) (hn : n ≤ 80000) (hat : at_ ≤ n) (hr : Rd w a n (bcells l)) (he : (hdr last (l.drop at_)).ended = 1) (hbc : (hdr last (l.drop at_)).bytes = b ++ [c]) :
    Calls Try.prog 40 #[.slice a n cap, .int .i64 (at_ : Int), .int .u8 last] w (HdLast w l at_ (hdr last (l.drop at_)) b c) := by
  refine (rheader_walk (cap := cap) last hl hn hat hr).mono ?_
  intro e w1 hH
  obtain ⟨tv, qs, bv, nx, rfl, hT, hq, hby, hnx, hg1⟩ := hH.get he
  obtain ⟨ta, tc, rfl⟩ := row_form hT.row
  rw [hbc, List.length_append, List.length_singleton] at hby
  obtain ⟨n2, rfl, hrs, ha2, hn2⟩ := hnx (by decide)
  obtain ⟨gb, bc, rfl⟩ : ∃ gb bc, bv = .slice (some ⟨gb, 0, none⟩) (b.length + 1) bc := by
    rcases hby.2 with ⟨hv, h0⟩ | ⟨g, cp, cur, hv, _⟩
    · omega
    · exact ⟨g, cp, hv⟩
  exact ⟨ta, tc, qs, gb, bc, n2, rfl, hT, hq, hby, hrs, ha2, hn2, hg1⟩
theorem last_cells {w1 : World} {B gb bc : Nat} {b : List Int} {c : Int} (hby : w1.ownsRow B 5 1 (.slice (some ⟨gb, 0, none⟩) (b.length + 1) bc) (b.length + 1) (bcells (b ++ [c]))) :
    w1.cell? ⟨gb, b.length, none⟩ = some (.int .u8 c) ∧ gb < w1.heap.size ∧ b.length + 1 ≤ bc ∧ ∀ (i : Nat) (u : Int), (b ++ [c])[i]? = some u → w1.cell? ⟨gb, i, none⟩ = some (.int .u8 u) := by
  have hcells : ∀ (i : Nat) (u : Int), (b ++ [c])[i]? = some u → w1.cell? ⟨gb, i, none⟩ = some (.int .u8 u) := fun i u hi => (HasRow.of_own hby).cells (g := gb) rfl i (.int .u8 u) (by
    unfold bcells
    rw [List.getElem?_map, hi]; rfl)
  have hcc := hcells b.length c (by simp)
  refine ⟨hcc, lt_of_cell hcc, ?_, hcells⟩
  rcases hby.2 with ⟨hv, h0⟩ | ⟨g, cp, cur, hv, _, _, hcp, _⟩
  · omega
  · injection hv with _ _ h1; omega
theorem conv_pre {w1 W : World} {gb bc : Nat} {b : List Int} {c : Int} (hc : ∀ (i : Nat) (u : Int), (b ++ [c])[i]? = some u → w1.cell? ⟨gb, i, none⟩ = some (.int .u8 u)) (hg : Gr w1 W) :
    (convert 22 9 (.slice (some ⟨gb, 0, none⟩) b.length bc)).run Try.prog W = .ok (.string (strOf b)) W :=
  conv_at (off := 0) rfl fun i u hi => by
    rw [Nat.zero_add]
    exact hg.cellAt (hc i u (by rw [List.getElem?_append_left (List.getElem?_eq_some_iff.1 hi).1]; exact hi))

section
variable {w : World} {a : Option Addr} {n cap at_ : Nat} {l : List Int}

set_option maxRecDepth 100000 in
set_option maxHeartbeats 2000000 in
theorem rseq_tell {b : List Int} {c : Int} (hl : ∀ c ∈ l, 0 ≤ c ∧ c < 256) (hn : n ≤ 80000) (hat : at_ ≤ n) (hr : Rd w a n (bcells l)) (he : (hdr 48 (l.drop at_)).ended = 1) (hbc : (hdr 48 (l.drop at_)).bytes = b ++ [c]) (hk : b ≠ [] ∨ opKind c = 0) (h3 : b.length ≤ 3) (htell : b ≠ [] ∨ c ≠ 92) :
    Calls Try.prog 23 #[.slice a n cap, .int .i64 (at_ : Int)] w (SeqTo w l at_ (seqR (l.drop at_))) := by
  have hs : seqR (l.drop at_) = ((hdr 48 (l.drop at_)).toks ++ [⟨3, c, 0, [], b, []⟩], some (hdr 48 (l.drop at_)).rest) := by
    simp only [seqR, he, hbc]
    simp [hk, h3, htell]
  have htl : (hdr 48 (l.drop at_)).toks.length ≤ 200000 := by
    have h1 := (hdr_props 48 (l.drop at_) fun c hc => hl c (List.mem_of_mem_drop hc)).2.2.2.2.1
    have hln : l.length = n := by simpa [bcells] using hr.1
    rw [List.length_drop] at h1; omega
  rw [hs]
  have hR := heap_alloc_new w (.cells #[.slice none 0 0, .int .i64 0] 50)
  have hg0 := (Gr.refl w).alloc (.cells #[.slice none 0 0, .int .i64 0] 50)
  have hcon := rheader_last (cap := cap) hl hn hat (hr.gr hg0) he hbc
  obtain ⟨h, hh⟩ : ∃ h, h = hdr 48 (l.drop at_) := ⟨_, rfl⟩
  rw [← hh] at hcon he hbc htl ⊢
  have H1 := Lib.hid hs
  have H2 := Lib.hid he
  have H3 := Lib.hid hh
  have H4 := Lib.hid hbc
  clear hs he hh hbc hl hr
  have hbg := rbegun_any c
  obtain ⟨kd, hkd⟩ : ∃ kd, kd = opKind c := ⟨_, rfl⟩
  rw [← hkd] at hbg hk
  have HK := Lib.hid hkd
  clear hkd
  have hcase : (b.length = 0 ∧ kd = 0 ∧ (c != 92) = true) ∨ (0 < b.length) := by
    by_cases hb : b = []
    · subst hb
      simp at hk htell
      exact .inl ⟨rfl, hk, by simpa using htell⟩
    · exact .inr (by cases b with | nil => exact absurd rfl hb | cons x r => simp)
  clear hk htell
  rcases hcase with ⟨hb0, rfl, hc92⟩ | h0n
  all_goals
    first
      | (have h30 : ¬ (0 : Int) < (b.length : Int) := by omega
         have h0m : b.length ≤ 3 := h3
         have h0n : ¬ 0 < b.length := by omega
         clear hb0)
      | (have h30 : (0 : Int) < (b.length : Int) := by omega
         have h0m : b.length ≤ 3 := h3)
    go_enter Try.func23, Try.ntmps23
    go_wp2_with (first
      | (go_at_call 40; (with_reducible refine hcon.mono ?_); rintro e w1 ⟨ta, tc, qs, gb, bc, n2, rfl, hT, hq, hby, hrs, ha2, hn2, hg1⟩; have hR1 := hg1.blk hR; obtain ⟨r0, r1, rf⟩ := cells2 hR1; have hz1 := blk_lt hR1; obtain ⟨hcc, hgz, hbcap, hcells⟩ := last_cells hby; have HRS := Lib.hid hrs; have HCL := Lib.hid hcells; clear hrs hcells)
      | (go_at_call 42; (with_reducible refine (hbg _).mono ?_); rintro e w' ⟨rfl, rfl⟩))
    have hgH := (Gr.refl w1).alloc (.cells #[.slice ta h.toks.length tc, .slice (some ⟨gb, 0, none⟩) (b.length + 1) bc, .int .i64 (n2 : Int), .int .i64 1] 68)
    have hHb := heap_alloc_new w1 (.cells #[.slice ta h.toks.length tc, .slice (some ⟨gb, 0, none⟩) (b.length + 1) bc, .int .i64 (n2 : Int), .int .i64 1] 68)
    have hcv := conv_pre (bc := bc) HCL.out (hgH.drew)
    have hHs := blk_lt hHb
    obtain ⟨x0, x1, x2, x3, xf⟩ := cells4 hHb
    have hbc1 : (b.length : Int) ≤ (bc : Int) := by omega
    have hbc0 : (0 : Int) ≤ (b.length : Int) := by omega
    have hgHt := hgH.alloc (.cells (tcells ⟨3, c, 0, [], b, []⟩ (.slice none 0 0, .slice none 0 0)).toArray 52)
    obtain ⟨y0, y1, y2, y3, yf⟩ := cells4 (((Gr.refl _).alloc (.cells (tcells ⟨3, c, 0, [], b, []⟩ (.slice none 0 0, .slice none 0 0)).toArray 52)).blk hHb)
    have hnew := heap_alloc_new (w1.alloc (.cells #[.slice ta h.toks.length tc, .slice (some ⟨gb, 0, none⟩) (b.length + 1) bc, .int .i64 (n2 : Int), .int .i64 1] 68)) (.cells (tcells ⟨3, c, 0, [], b, []⟩ (.slice none 0 0, .slice none 0 0)).toArray 52)
    rw [show (w1.alloc (.cells #[.slice ta h.toks.length tc, .slice (some ⟨gb, 0, none⟩) (b.length + 1) bc, .int .i64 (n2 : Int), .int .i64 1] 68)).heap.size = w1.heap.size + 1 by simp] at hnew
    go_region_law (refine step_pushN rfl _ _ _ rfl (w.heap.size + 1) 52 _ 6 80 Try.underlying25 rtoken_info rfl (by omega) (by omega) _ _ _ (tcells ⟨3, c, 0, [], b, []⟩ (.slice none 0 0, .slice none 0 0)) (ownsRow_gr (ownsRow_mono hT.row (by simp)) (by (repeat (first | with_reducible exact Gr.refl _ | with_reducible assumption | with_reducible refine Gr.setCell ?_ (by simp; try omega) _ | with_reducible refine Gr.alloc ?_ _ | with_reducible refine Gr.drew ?_ | with_reducible refine Gr.drewN ?_ _ | with_reducible refine Gr.trans ?_ (by assumption))))) (w1.heap.size + 1) (by rfl) (by rfl) hnew rfl (inter_one _) (by omega) (by simp; omega) ?_; intro g cap2 w3 hG hown; obtain ⟨z0, z1, z2, z3, zf⟩ := cells4 ((hG.new (Nat.lt_of_lt_of_le hHs (gr_le (by (repeat (first | with_reducible exact Gr.refl _ | with_reducible assumption | with_reducible refine Gr.setCell ?_ (by simp; try omega) _ | with_reducible refine Gr.alloc ?_ _ | with_reducible refine Gr.drew ?_ | with_reducible refine Gr.drewN ?_ _ | with_reducible refine Gr.trans ?_ (by assumption)))))) (row_ne (ownsRow_gr hT.row hgH) hHb (by decide))).trans (Gr.blk (by (repeat (first | with_reducible exact Gr.refl _ | with_reducible assumption | with_reducible refine Gr.setCell ?_ (by simp; try omega) _ | with_reducible refine Gr.alloc ?_ _ | with_reducible refine Gr.drew ?_ | with_reducible refine Gr.drewN ?_ _ | with_reducible refine Gr.trans ?_ (by assumption)))) hHb)))
    all_goals
      have hHz := (hG.new (Nat.lt_of_lt_of_le hHs (gr_le (by (repeat (first | with_reducible exact Gr.refl _ | with_reducible assumption | with_reducible refine Gr.setCell ?_ (by simp; try omega) _ | with_reducible refine Gr.alloc ?_ _ | with_reducible refine Gr.drew ?_ | with_reducible refine Gr.drewN ?_ _ | with_reducible refine Gr.trans ?_ (by assumption)))))) (row_ne (ownsRow_gr hT.row hgH) hHb (by decide))).trans (Gr.blk (by (repeat (first | with_reducible exact Gr.refl _ | with_reducible assumption | with_reducible refine Gr.setCell ?_ (by simp; try omega) _ | with_reducible refine Gr.alloc ?_ _ | with_reducible refine Gr.drew ?_ | with_reducible refine Gr.drewN ?_ _ | with_reducible refine Gr.trans ?_ (by assumption)))) hHb)
      have hRz := (hG.new (Nat.lt_of_lt_of_le hz1 (gr_le (by (repeat (first | with_reducible exact Gr.refl _ | with_reducible assumption | with_reducible refine Gr.setCell ?_ (by simp; try omega) _ | with_reducible refine Gr.alloc ?_ _ | with_reducible refine Gr.drew ?_ | with_reducible refine Gr.drewN ?_ _ | with_reducible refine Gr.trans ?_ (by assumption)))))) (row_ne hT.row hR1 (by decide))).trans (Gr.blk (by (repeat (first | with_reducible exact Gr.refl _ | with_reducible assumption | with_reducible refine Gr.setCell ?_ (by simp; try omega) _ | with_reducible refine Gr.alloc ?_ _ | with_reducible refine Gr.drew ?_ | with_reducible refine Gr.drewN ?_ _ | with_reducible refine Gr.trans ?_ (by assumption)))) hR1)
      obtain ⟨p0, p1, pf⟩ := cells2 hRz
      go_wp2_with fail
      refine bodyPost_ret (v := .agg #[.slice (some ⟨g, 0, none⟩) (h.toks.length + 1) cap2, .int .i64 (n2 : Int)]) (by simp [results, Try.results23, go_sem, *]) rfl ?_
      have hp := ((hT.mono (B' := w.heap.size + 1) (by simp)).gr (by (repeat (first | with_reducible exact Gr.refl _ | with_reducible assumption | with_reducible refine Gr.setCell ?_ (by simp; try omega) _ | with_reducible refine Gr.alloc ?_ _ | with_reducible refine Gr.drew ?_ | with_reducible refine Gr.drewN ?_ _ | with_reducible refine Gr.trans ?_ (by assumption))))).push (t := ⟨3, c, 0, [], b, []⟩) (q := (.slice none 0 0, .slice none 0 0)) ⟨.nil _ _, .nil _ _⟩ hG hown
      refine .mk (hp.setH hHz 0 _) (blk_far hRz (by simp; omega) _) ?_ (by omega) (.inr ⟨n2, rfl, by rw [HRS.out], by omega, hn2⟩) rfl
      have hgw : Gr w w3 := hG.gr ((hg0.trans hg1).trans (by (repeat (first | with_reducible exact Gr.refl _ | with_reducible assumption | with_reducible refine Gr.setCell ?_ (by simp; try omega) _ | with_reducible refine Gr.alloc ?_ _ | with_reducible refine Gr.drew ?_ | with_reducible refine Gr.drewN ?_ _ | with_reducible refine Gr.trans ?_ (by assumption))))) fun k hk => by have := ownsRow_base hT.row hk; simp at this; omega
      exact hgw.setCell (by have := gr_le (hg0.trans hg1); simp; omega) _
end
end
section
open Go.RowKit

section
variable {w : World} {a : Option Addr} {n cap at_ : Nat} {l : List Int}

set_option maxRecDepth 100000 in
set_option maxHeartbeats 1000000 in
theorem rseq_str {c : Int} (hl : ∀ c ∈ l, 0 ≤ c ∧ c < 256) (hn : n ≤ 80000) (hat : at_ ≤ n) (hr : Rd w a n (bcells l)) (he : (hdr 48 (l.drop at_)).ended = 1) (hbc : (hdr 48 (l.drop at_)).bytes = [c]) (hk : 5 < opKind c) :
    Calls Try.prog 23 #[.slice a n cap, .int .i64 (at_ : Int)] w (SeqTo w l at_ (seqR (l.drop at_))) := by
  have hs : seqR (l.drop at_) = strR ⟨opKind c, 0, 0, [], [], []⟩ true (hdr 48 (l.drop at_)).rest (hdr 48 (l.drop at_)).toks := by
    have h0 : opKind c ≠ 0 := by omega
    simp only [seqR, he, hbc]
    simp [h0, hk]
  have hln : l.length = n := by simpa [bcells] using hr.1
  have htl : (hdr 48 (l.drop at_)).toks.length ≤ 200000 := by
    have h1 := (hdr_props 48 (l.drop at_) fun c hc => hl c (List.mem_of_mem_drop hc)).2.2.2.2.1
    rw [List.length_drop] at h1; omega
  rw [hs]
  have hR := heap_alloc_new w (.cells #[.slice none 0 0, .int .i64 0] 50)
  have hg0 := (Gr.refl w).alloc (.cells #[.slice none 0 0, .int .i64 0] 50)
  have hcon := rheader_last (b := []) (cap := cap) hl hn hat (hr.gr hg0) he hbc
  obtain ⟨h, hh⟩ : ∃ h, h = hdr 48 (l.drop at_) := ⟨_, rfl⟩
  rw [← hh] at hcon he hbc htl ⊢
  have H1 := Lib.hid hs
  have H2 := Lib.hid he
  have H3 := Lib.hid hh
  have H4 := Lib.hid hbc
  have H5 := Lib.hid hl
  have H6 := Lib.hid hln
  clear hs he hh hbc hl hln
  have hbg := rbegun_any c
  obtain ⟨kd, hkd⟩ : ∃ kd, kd = opKind c := ⟨_, rfl⟩
  rw [← hkd] at hbg hk ⊢
  have HK := Lib.hid hkd
  clear hkd
  have hk0 : (kd == 0) = false := by simp; omega
  go_enter Try.func23, Try.ntmps23
  go_wp2_with (first
    | (go_at_call 40; (with_reducible refine hcon.mono ?_); rintro e w1 ⟨ta, tc, qs, gb, bc, n2, rfl, hT, hq, hby, hrs, ha2, hn2, hg1⟩; have hR1 := hg1.blk hR; obtain ⟨r0, r1, rf⟩ := cells2 hR1; have hz1 := blk_lt hR1; obtain ⟨hcc, hgz, hbcap, hcells⟩ := last_cells hby; have HRS := Lib.hid hrs; have HCL := Lib.hid hcells; clear hrs hcells; simp only [List.length_nil] at hcc)
    | (go_at_call 42; (with_reducible refine (hbg _).mono ?_); rintro e w' ⟨rfl, rfl⟩)
    | (go_at_call 43; refine (rstr_walk (t := ⟨kd, 0, 0, [], [], []⟩) (good := true) H5.out hn (by have := H6.out; omega) htl (hr.gr ((hg0.trans hg1).alloc _)) (hT.gr ((Gr.refl _).alloc _)) (by simp; omega) rfl (.nil _ _)).mono ?_
       rintro e w2 ⟨v', qs', nx', rfl, hT', hu', hnx'⟩
       obtain ⟨ta', tc', rfl⟩ := row_form hT'.row
       have hR2 := (hu'.block w.heap.size (by simp; omega) (fun hm => row_ne hT.row hR1 (by decide) (by simpa using hm))).trans (((Gr.refl _).alloc _).blk hR1)
       obtain ⟨s0, s1, sf⟩ := cells2 hR2))
  refine bodyPost_ret (v := .agg #[.slice ta' (strR ⟨kd, 0, 0, [], [], []⟩ true (l.drop n2) h.toks).1.length tc', .int .i64 nx']) (by simp [results, Try.results23, go_sem, *]) rfl ?_
  rw [HRS.out]
  refine .mk hT' hR2 (((hg0.trans hg1).alloc _).upd hu' (fun k hk => ?_)) (by simp) ?_ rfl
  · have := ownsRow_base hT.row (k := k) (by simpa using hk); simp at this; omega
  · rcases hnx' with hx | ⟨m, h1, h2, h3, h4⟩
    · exact .inl hx
    · exact .inr ⟨m, h1, h2, by omega, h4⟩
end
end
end Go.Proofs.Ytgbmjlajheeciaa
