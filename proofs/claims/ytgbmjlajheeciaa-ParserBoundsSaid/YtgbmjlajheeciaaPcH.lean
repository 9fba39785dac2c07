/-
  The document's string, walked: the loop.
-/
import Derived.Test.YtgbmjlajheeciaaPcF
namespace Go.Proofs.Ytgbmjlajheeciaa
set_option linter.unusedSimpArgs false
set_option linter.unusedVariables false
open Go.RowKit

theorem RTs.keepGr {w wr W : World} {B : Nat} {ts : List Tok} {v : Value} {qs : List (Value × Value)} (h : RTs w B ts v qs) (hg : Gr w W) : RTs W B ts v qs := h.gr hg
theorem tok_one (t : Tok) (a b : Option Addr) (n m c d : Nat) : ∀ v ∈ tcells t (.slice a n c, .slice b m d), v.oneCell' = true := by
  intro v hv
  simp [tcells] at hv
  rcases hv with rfl | rfl | rfl | rfl | rfl | rfl <;> rfl
/-- A part of a string's end, the token told. -/
theorem StrMem.told {w wr w1 : World} {B : Nat} {l : List Int} {lo m : Nat} {t : Tok} {pv dv v V : Value} {ts : List Tok} {qs : List (Value × Value)} {g : Nat} (h : StrMem w t pv dv wr) (hT : RTs w B ts v qs)
    (hG : Grew (wr.alloc (.cells (tcells t (pv, dv)).toArray 52)) w1 v V g)
    (hown : w1.ownsRow B 52 6 V (ts.length + 1) (tsCells ts qs ++ tcells t (pv, dv))) (hm : lo ≤ m ∧ m ≤ l.length) (i j : Nat) (u x : Value) {nx : Int} (hnx : nx = m) :
    PartTo w v B l lo (ts ++ [t], some (l.drop m)) (.returned (.agg #[V, .int .i64 nx])) ((w1.setCell ⟨w.heap.size + 1, i, none⟩ u).setCell ⟨w.heap.size + 1, j, none⟩ x) := by
  have hg1 : Gr wr (wr.alloc (.cells (tcells t (pv, dv)).toArray 52)) := (Gr.refl _).alloc _
  have hg2 := h.gr.trans hg1
  have hvb : ∀ k, v.ownBlock = some k → k < w.heap.size := fun k hk => ownsRow_blk hT.row hk
  have hR : w1.heap[w.heap.size + 1]? = some (.cells #[.slice none 0 0, .int .i64 0] 50 (0, 0)) :=
    (hG.new (Nat.lt_of_lt_of_le (blk_lt h.res) hg1.size) (fun e => by have := hvb _ e; omega)).trans (hg1.blk h.res)
  have hp := (hT.gr hg2).push (q := (pv, dv)) ⟨h.params.gr hg1, (HasRow.of_own h.data).gr hg1⟩ hG hown
  exact ⟨_, _, _, rfl, hp.setRR hR i j u x, ((hG.updK (Upd.of_gr hg2) (fun k hk _ => by rw [hk]; simp)).new (by simp) _).new (by simp) _, .inr ⟨m, hnx, rfl, hm.1, hm.2⟩⟩
theorem StrMem.blkR {w wr w1 : World} {B : Nat} {t : Tok} {pv dv v V : Value} {ts : List Tok} {qs : List (Value × Value)} {g : Nat} {o : Obj} (h : StrMem w t pv dv wr) (hT : RTs w B ts v qs) (hG : Grew (wr.alloc o) w1 v V g) :
    w1.heap[w.heap.size + 1]? = some (.cells #[.slice none 0 0, .int .i64 0] 50 (0, 0)) :=
  (hG.new (Nat.lt_of_lt_of_le (blk_lt h.res) ((Gr.refl wr).alloc o).size) (fun e => by have := ownsRow_blk hT.row e; omega)).trans (((Gr.refl _).alloc _).blk h.res)
/-- The same, nothing told. -/
theorem StrMem.quiet {w wr : World} {B : Nat} {l : List Int} {lo : Nat} {t : Tok} {pv dv v : Value} {ts : List Tok} {qs : List (Value × Value)} (h : StrMem w t pv dv wr) (hT : RTs w B ts v qs) (i j : Nat) (u x : Value) {nx : Int} {r : Option (List Int)}
    (hr : (r = none ∧ nx = -1) ∨ ∃ n : Nat, nx = n ∧ r = some (l.drop n) ∧ lo ≤ n ∧ n ≤ l.length) :
    PartTo w v B l lo (ts, r) (.returned (.agg #[v, .int .i64 nx])) ((wr.setCell ⟨w.heap.size + 1, i, none⟩ u).setCell ⟨w.heap.size + 1, j, none⟩ x) :=
  ⟨_, _, _, rfl, (hT.gr h.gr).setRR h.res i j u x, ((Upd.of_gr h.gr).new (by simp) _).new (by simp) _, hr⟩

/-- What broken leaves, handed on. -/
theorem StrMem.brkd {w wr w1 : World} {B : Nat} {l : List Int} {at_ k : Nat} {t : Tok} {pv dv v v' : Value} {ts ts' : List Tok} {qs qs' : List (Value × Value)} {rest : Option (List Int)} {nx : Int} (h : StrMem w t pv dv wr) (hT : RTs w B ts v qs) (hak : at_ ≤ k)
    (hT' : RTs w1 B ts' v' qs') (hu : Upd v.ownBlock.toList wr w1) (hn : (rest = none ∧ nx = -1) ∨ ∃ n : Nat, nx = n ∧ rest = some (l.drop n) ∧ k ≤ n ∧ n ≤ l.length) (i j : Nat) (u x : Value) :
    PartTo w v B l at_ (ts', rest) (.returned (.agg #[v', .int .i64 nx])) ((w1.setCell ⟨w.heap.size + 1, i, none⟩ u).setCell ⟨w.heap.size + 1, j, none⟩ x) := by
  have hR : w1.heap[w.heap.size + 1]? = some (.cells #[.slice none 0 0, .int .i64 0] 50 (0, 0)) :=
    (hu.block _ (blk_lt h.res) (fun hm => by have := ownsRow_blk hT.row (k := w.heap.size + 1) (by simpa using hm); omega)).trans h.res
  refine ⟨_, _, _, rfl, hT'.setRR hR i j u x, (((Upd.of_gr h.gr).trans1 hu).new (by simp) _).new (by simp) _, ?_⟩
  rcases hn with hn | ⟨n, h1, h2, h3, h4⟩
  · exact .inl hn
  · exact .inr ⟨n, h1, h2, by omega, h4⟩
theorem StrMem.resU {w wr w1 : World} {B : Nat} {t : Tok} {pv dv v : Value} {ts : List Tok} {qs : List (Value × Value)} (h : StrMem w t pv dv wr) (hT : RTs w B ts v qs) (hu : Upd v.ownBlock.toList wr w1) :
    w1.heap[w.heap.size + 1]? = some (.cells #[.slice none 0 0, .int .i64 0] 50 (0, 0)) :=
  (hu.block _ (blk_lt h.res) (fun hm => by have := ownsRow_blk hT.row (k := w.heap.size + 1) (by simpa using hm); omega)).trans h.res
theorem StrMem.blkX {w wr w1 : World} {t : Tok} {pv dv V : Value} {g : Nat} {o : Obj} (h : StrMem w t pv dv wr) (hG : Grew (wr.alloc o) w1 dv V g) : w1.heap[w.heap.size]? = some (.cells (xcells t pv dv) 52 (0, 0)) :=
  (hG.new (Nat.lt_of_lt_of_le (blk_lt h.blk) ((Gr.refl wr).alloc o).size) (row_ne h.data h.blk (by decide))).trans (((Gr.refl _).alloc _).blk h.blk)

set_option maxRecDepth 100000 in
set_option maxHeartbeats 4000000 in
theorem rstr_walk {w : World} {a : Option Addr} {n cap at_ B : Nat} {l : List Int} {ts : List Tok} {v pv : Value} {qs : List (Value × Value)} {t : Tok} {good : Bool} (hl : ∀ c ∈ l, 0 ≤ c ∧ c < 256) (hn : n ≤ 80000) (hat : at_ ≤ n) (ht : ts.length ≤ 200000)
    (hr : Rd w a n (bcells l)) (hT : RTs w B ts v qs) (hB : B ≤ w.heap.size) (hd : t.data = []) (hp : HasRow w 3 pv t.params.length (icells t.params)) :
    Calls Try.prog 43 #[.slice a n cap, .int .i64 (at_ : Int), .agg (xcells t pv (.slice none 0 0)), .bool good, v] w (PartTo w v B l at_ (strR t good (l.drop at_) ts)) := by
  have hln : l.length = n := by simpa [bcells] using hr.1
  obtain ⟨ta, tc, rfl⟩ := row_form hT.row
  obtain ⟨pa, pc, rfl⟩ := hp.form
  have H := Lib.hid hd
  unfold xcells
  clear hd
  go_enter Try.func43, Try.ntmps43
  go_wp2_with fail
  go_loopw [4, 11] (fun bv i wr => ∃ (k : Nat) (t' : Tok) (dv : Value), k ≤ n ∧ at_ ≤ k ∧ t'.data.length ≤ k ∧ t'.kind = t.kind ∧ bv = .slice ta ts.length tc ∧ i = .int .i64 k ∧ StrPos t good l at_ k ts t' ∧ StrMem w t' (.slice pa t.params.length pc) dv wr) (fun _ i _ => n - (intOf i).toNat)
  case atStart =>
    refine ⟨at_, t, .slice none 0 0, hat, Nat.le_refl _, by rw [H.out]; simp, rfl, rfl, rfl, rfl, ⟨?_, hp.gr ?_, ?_, ?_, ?_⟩⟩
    · exact ((Gr.refl _).alloc _).blk (heap_alloc_new w _)
    · (repeat (first | with_reducible (refine Gr.setCell ?_ ?hp _; case hp => (simp; try omega)) | with_reducible refine Gr.alloc ?_ _ | with_reducible refine Gr.drew ?_ | with_reducible refine Gr.drewN ?_ _ | with_reducible assumption | with_reducible exact Gr.refl _ | with_reducible refine Gr.trans ?_ (by assumption)))
    · rw [H.out]; exact World.ownsRow_nil _ _ _ _
    · (repeat (first | with_reducible (refine Gr.setCell ?_ ?hp _; case hp => (simp; try omega)) | with_reducible refine Gr.alloc ?_ _ | with_reducible refine Gr.drew ?_ | with_reducible refine Gr.drewN ?_ _ | with_reducible assumption | with_reducible exact Gr.refl _ | with_reducible refine Gr.trans ?_ (by assumption)))
    · have := heap_alloc_new (w.alloc (.cells (xcells t (.slice pa t.params.length pc) (.slice none 0 0)) 52)) (.cells #[.slice none 0 0, .int .i64 0] 50)
      simpa [xcells] using this
  case round =>
    obtain ⟨k, t', dv, hk, hak, hdl, hkd, rfl, rfl, hpos, hM⟩ := hrel
    obtain ⟨da, dc, rfl⟩ := row_form hM.data
    obtain ⟨k0, k1, k2, k3, k4, k5, kf⟩ := cells6 hM.blk
    obtain ⟨r0, r1, rf⟩ := cells2 hM.res
    have hsz := blk_lt hM.res
    have HP := Lib.hid hpos; clear hpos
    have HK := Lib.hid hkd; clear hkd
    have HL := Lib.hid hln
    by_cases hlt : k < n
    · obtain ⟨b, off, c, rfl, hc, hcell, hb⟩ := (hr.gr hM.gr).byte hlt
      obtain ⟨c0, c1⟩ := hl c (List.mem_of_getElem? hc)
      have hkn : (k : Int) < (n : Int) := by omega
      have HC := Lib.hid hc
      have hHr := Lib.hid (hr.gr hM.gr)
      have hln' : k + 1 ≤ l.length := by omega
      clear hr hc hln
      by_cases h27 : c = 27
      · subst h27
        by_cases hend : k + 1 = n
        · have q1 : ((k : Int) + 1 == (n : Int)) = true := by simp; omega
          have he := str_none (t := t') (good := good) (ts := ts) HC.out (by have := HL.out; omega)
          have HE := Lib.hid he; clear he hend
          go_wp2_with fail
          refine bodyPost_ret (v := .agg #[.slice ta ts.length tc, .int .i64 (-1)]) (by simp [results, Try.results43, go_sem, *]) rfl ?_
          rw [show strR t good (l.drop at_) ts = (ts, none) by rw [HP.out, HE.out]]
          exact hM.quiet hT _ _ _ _ (.inl ⟨rfl, rfl⟩)
        · have q1 : ((k : Int) + 1 == (n : Int)) = false := by simp; omega
          have hkn2 : (k : Int) + 1 < (n : Int) := by omega
          have hk12 : k + 2 ≤ l.length := by have := HL.out; omega
          obtain ⟨b2, off2, d, hb2, hd, hcell2, _⟩ := hHr.out.byte (k := k + 1) (by omega)
          injection hb2 with hb2
          injection hb2 with hb2 hoff2
          subst hb2; subst hoff2
          obtain ⟨d0, d1⟩ := hl d (List.mem_of_getElem? hd)
          have hcell3 : wr.cell? ⟨b, off + (k + 1), none⟩ = some (.int .u8 d) := hcell2
          clear hcell2 hl hend
          by_cases h92 : d % 128 = 92
          · have q2 : (d % 128 == 92) = true := by simpa using h92
            have he := str_st (t := t') (good := good) (ts := ts) HC.out hd h92
            have HE := Lib.hid he; clear he
            clear h92 hd
            by_cases hgd : good = true ∧ t'.data.length ≤ 4096
            · have hq1 := hgd.1
              have hq2 : (t'.data.length : Int) ≤ 4096 := by have := hgd.2; omega
              have HG := Lib.hid hgd; clear hgd
              subst hq1
              go_wp2_with (at_builtin; refine wpList_pushN rfl _ _ _ rfl B 52 _ 6 80 Try.underlying25 rtoken_info rfl (by omega) (by omega) _ _ _ (tcells t' (.slice pa t.params.length pc, .slice da t'.data.length dc)) (ownsRow_gr hT.row (hM.gr.alloc _)) _ rfl rfl (heap_alloc_new _ _) rfl (tok_one _ _ _ _ _ _ _) (by omega) (Nat.le_trans hB (gr_le (hM.gr.alloc _))) ?_; intro g cap2 w2 hG hown; obtain ⟨s0, s1, sf⟩ := cells2 (hM.blkR hT hG))
              refine bodyPost_ret (v := .agg #[.slice (some ⟨g, 0, none⟩) (ts.length + 1) cap2, .int .i64 ((k : Int) + 2)]) (by simp [results, Try.results43, go_sem, *]) rfl ?_
              rw [show strR t true (l.drop at_) ts = (ts ++ [t'], some (l.drop (k + 2))) by rw [HP.out, HE.out, if_pos HG.out]]
              exact hM.told hT hG hown ⟨by omega, by omega⟩ _ _ _ _ (by simp)
            · have HG := Lib.hid hgd
              cases hgt : good with
              | false =>
                subst hgt
                clear hgd
                go_wp2_with fail
                refine bodyPost_ret (v := .agg #[.slice ta ts.length tc, .int .i64 ((k : Int) + 2)]) (by simp [results, Try.results43, go_sem, *]) rfl ?_
                rw [show strR t false (l.drop at_) ts = (ts, some (l.drop (k + 2))) by rw [HP.out, HE.out, if_neg HG.out]]
                exact hM.quiet hT _ _ _ _ (.inr ⟨k + 2, by simp, rfl, by omega, by omega⟩)
              | true =>
                subst hgt
                have hq2 : ¬ (t'.data.length : Int) ≤ 4096 := by intro h; exact hgd ⟨rfl, by omega⟩
                clear hgd
                go_wp2_with fail
                refine bodyPost_ret (v := .agg #[.slice ta ts.length tc, .int .i64 ((k : Int) + 2)]) (by simp [results, Try.results43, go_sem, *]) rfl ?_
                rw [show strR t true (l.drop at_) ts = (ts, some (l.drop (k + 2))) by rw [HP.out, HE.out, if_neg HG.out]]
                exact hM.quiet hT _ _ _ _ (.inr ⟨k + 2, by simp, rfl, by omega, by omega⟩)
          · have q2 : (d % 128 == 92) = false := by simpa using h92
            have he := str_brk (t := t') (good := good) (ts := ts) HC.out rfl (fun _ => ⟨d, hd, h92⟩)
            have he : strR t good (l.drop at_) ts = brokenR (l.drop k) ts := by rw [HP.out, he]
            have hbk := rbreaks_any 27 wr
            rw [show brk 27 = true from rfl] at hbk
            have hbr := rbroken_walk (cap := cap) (at_ := k) HC.out hn ht hHr.out (hT.gr hM.gr) (Nat.le_trans hB hM.gr.size)
            clear h92 hd
            have HE := Lib.hid he; clear he
            go_wp2_with (first
              | (go_at_call 55; refine hbk.mono ?_; rintro e w' ⟨rfl, rfl⟩)
              | (go_at_call 41; refine hbr.mono ?_; rintro e w1 ⟨v', qs', nx, rfl, hT', hu', hnx⟩
                 obtain ⟨ta', tc', rfl⟩ := row_form hT'.row
                 obtain ⟨s0, s1, sf⟩ := cells2 (hM.resU hT hu')))
            refine bodyPost_ret (v := .agg #[.slice ta' (brokenR (l.drop k) ts).1.length tc', .int .i64 nx]) (by simp [results, Try.results43, go_sem, *]) rfl ?_
            rw [HE.out]
            exact hM.brkd hT hak hT' hu' hnx _ _ _ _
      · have q27 : (c == 27) = false := by simpa using h27
        by_cases h7 : c = 7 ∧ t'.kind = 6
        · obtain ⟨rfl, hk6⟩ := h7
          have q6 : (t'.kind == 6) = true := by simpa using hk6
          clear h27 hl
          have he := str_bell (t := t') (good := good) (ts := ts) HC.out hk6
          have HE := Lib.hid he; clear he
          clear hk6
          by_cases hgd : good = true ∧ t'.data.length ≤ 4096
          · have hq1 := hgd.1
            have hq2 : (t'.data.length : Int) ≤ 4096 := by have := hgd.2; omega
            have HG := Lib.hid hgd; clear hgd
            subst hq1
            go_wp2_with (at_builtin; refine wpList_pushN rfl _ _ _ rfl B 52 _ 6 80 Try.underlying25 rtoken_info rfl (by omega) (by omega) _ _ _ (tcells t' (.slice pa t.params.length pc, .slice da t'.data.length dc)) (ownsRow_gr hT.row (hM.gr.alloc _)) _ rfl rfl (heap_alloc_new _ _) rfl (tok_one _ _ _ _ _ _ _) (by omega) (Nat.le_trans hB (gr_le (hM.gr.alloc _))) ?_; intro g cap2 w2 hG hown; obtain ⟨s0, s1, sf⟩ := cells2 (hM.blkR hT hG))
            refine bodyPost_ret (v := .agg #[.slice (some ⟨g, 0, none⟩) (ts.length + 1) cap2, .int .i64 ((k : Int) + 1)]) (by simp [results, Try.results43, go_sem, *]) rfl ?_
            rw [show strR t true (l.drop at_) ts = (ts ++ [t'], some (l.drop (k + 1))) by rw [HP.out, HE.out, if_pos HG.out]]
            exact hM.told hT hG hown ⟨by omega, by omega⟩ _ _ _ _ (by simp)
          · have HG := Lib.hid hgd
            cases hgt : good with
            | false =>
              subst hgt
              clear hgd
              go_wp2_with fail
              refine bodyPost_ret (v := .agg #[.slice ta ts.length tc, .int .i64 ((k : Int) + 1)]) (by simp [results, Try.results43, go_sem, *]) rfl ?_
              rw [show strR t false (l.drop at_) ts = (ts, some (l.drop (k + 1))) by rw [HP.out, HE.out, if_neg HG.out]]
              exact hM.quiet hT _ _ _ _ (.inr ⟨k + 1, by simp, rfl, by omega, by omega⟩)
            | true =>
              subst hgt
              have hq2 : ¬ (t'.data.length : Int) ≤ 4096 := by intro h; exact hgd ⟨rfl, by omega⟩
              clear hgd
              go_wp2_with fail
              refine bodyPost_ret (v := .agg #[.slice ta ts.length tc, .int .i64 ((k : Int) + 1)]) (by simp [results, Try.results43, go_sem, *]) rfl ?_
              rw [show strR t true (l.drop at_) ts = (ts, some (l.drop (k + 1))) by rw [HP.out, HE.out, if_neg HG.out]]
              exact hM.quiet hT _ _ _ _ (.inr ⟨k + 1, by simp, rfl, by omega, by omega⟩)
        · have q7 : c ≠ 7 → (c == 7) = false := fun h => by simpa using h
          have q6 : c = 7 → (t'.kind == 6) = false := fun h => by simpa using fun h6 => h7 ⟨h, h6⟩
          cases hbrk : brk c with
          | true =>
            have h7' : c ≠ 7 := by rintro rfl; simp [brk] at hbrk
            have q7 := q7 h7'
            have he := str_brk (t := t') (good := good) (ts := ts) HC.out hbrk (fun h => absurd h h27)
            have he : strR t good (l.drop at_) ts = brokenR (l.drop k) ts := by rw [HP.out, he]
            have hbk := rbreaks_any c wr
            rw [hbrk] at hbk
            have hbr := rbroken_walk (cap := cap) (at_ := k) HC.out hn ht hHr.out (hT.gr hM.gr) (Nat.le_trans hB hM.gr.size)
            clear hbrk h7' q6 h7 h27 hl
            have HE := Lib.hid he; clear he
            go_wp2_with (first
              | (go_at_call 55; refine hbk.mono ?_; rintro e w' ⟨rfl, rfl⟩)
              | (go_at_call 41; refine hbr.mono ?_; rintro e w1 ⟨v', qs', nx, rfl, hT', hu', hnx⟩
                 obtain ⟨ta', tc', rfl⟩ := row_form hT'.row
                 obtain ⟨s0, s1, sf⟩ := cells2 (hM.resU hT hu')))
            refine bodyPost_ret (v := .agg #[.slice ta' (brokenR (l.drop k) ts).1.length tc', .int .i64 nx]) (by simp [results, Try.results43, go_sem, *]) rfl ?_
            rw [HE.out]
            exact hM.brkd hT hak hT' hu' hnx _ _ _ _
          | false =>
            have hnx := HP.out.next HC.out hbrk h7
            have hbk := rbreaks_any c wr
            rw [hbrk] at hbk
            have hdt := rdata_any c ⟨c0, c1⟩ wr
            have HN := Lib.hid hnx; clear hnx
            clear hbrk h27 hl
            have hgo : ∀ b : Bool, dataOk c = b → Calls Try.prog 57 #[.int .u8 c] wr fun e w' => e = .returned (.bool b) ∧ wr = w' := fun b h => by rw [← h]; exact hdt
            clear hdt
            by_cases h7' : c = 7
            · have q6' := q6 h7'
              subst h7'
              have hdt := hgo _ rfl
              rw [show dataOk 7 = false from rfl] at hdt HN
              clear q6 q7 h7 hgo
              go_wp2_with (first
                | (go_at_call 55; refine hbk.mono ?_; rintro e w' ⟨rfl, rfl⟩)
                | (go_at_call 57; refine hdt.mono ?_; rintro e w' ⟨rfl, rfl⟩))
              go_roundw
              case rel => exact ⟨k + 1, t', _, by omega, by omega, by omega, HK.out, rfl, by go_num, HN.out, hM⟩
              case measure => simp [intOf]; omega
            · have q7' := q7 h7'
              clear q6 q7 h7 h7'
              cases hda : dataOk c with
              | false =>
                have hdt := hgo _ hda
                rw [hda] at HN
                clear hgo hda
                go_wp2_with (first
                  | (go_at_call 55; refine hbk.mono ?_; rintro e w' ⟨rfl, rfl⟩)
                  | (go_at_call 57; refine hdt.mono ?_; rintro e w' ⟨rfl, rfl⟩))
                go_roundw
                case rel => exact ⟨k + 1, t', _, by omega, by omega, by omega, HK.out, rfl, by go_num, HN.out, hM⟩
                case measure => simp [intOf]; omega
              | true =>
                have hdt := hgo _ hda
                rw [hda] at HN
                clear hgo hda
                go_wp2_with (first
                  | (go_at_call 55; refine hbk.mono ?_; rintro e w' ⟨rfl, rfl⟩)
                  | (go_at_call 57; refine hdt.mono ?_; rintro e w' ⟨rfl, rfl⟩)
                  | (at_builtin; refine wpList_push1 rfl _ _ _ rfl w.heap.size 5 (.int .u8 0) 1 Try.underlying22 u8_info rfl (by omega) _ _ _ _ (hM.data.alloc _) _ rfl rfl (cell_alloc1 _ _ _) rfl (by omega) (by simp; omega) ?_; intro g cap2 w2 hG hown; obtain ⟨g0, g1, g2, g3, g4, g5, gf⟩ := cells6 (hM.blkX hG)))
                go_roundw
                case rel => exact ⟨k + 1, { t' with data := t'.data ++ [c] }, _, by omega, by omega, by simp; omega, HK.out, rfl, by go_num, HN.out, hM.push ((Gr.refl _).alloc _) hG hown⟩
                case measure => simp [intOf]; omega
    · have he := str_end (t := t') (good := good) (ts := ts) (k := k) (l := l) (by omega)
      have HE := Lib.hid he; clear he
      have hkn : ¬ (k : Int) < (n : Int) := by omega
      clear hr hl hln
      go_wp2_with fail
      refine bodyPost_ret (v := .agg #[.slice ta ts.length tc, .int .i64 (-1)]) (by simp [results, Try.results43, go_sem, *]) rfl ?_
      rw [show strR t good (l.drop at_) ts = (ts, none) by rw [HP.out, HE.out]]
      exact hM.quiet hT _ _ _ _ (.inl ⟨rfl, rfl⟩)
end Go.Proofs.Ytgbmjlajheeciaa
