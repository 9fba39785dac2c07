/-
  The law of chunks, walked.
-/
import Derived.Test.YtgbmjlajheeciaaPdI
import Derived.Test.YtgbmjlajheeciaaPdJ
import Derived.Test.YtgbmjlajheeciaaPdE
namespace Go.Proofs.Ytgbmjlajheeciaa
set_option linter.unusedSimpArgs false
set_option linter.unusedVariables false
open Go.RowKit

/-- A row of tokens' blocks are of the tokens' type. -/
theorem ownsRow_cells {w : World} {B e size n : Nat} {v : Value} {xs : List Value} (h : w.ownsRow B e size v n xs) {k : Nat} (hk : v.ownBlock = some k) : ∃ c, w.heap[k]? = some (.cells c e (0, 0)) := by
  rcases h.2 with ⟨rfl, _⟩ | ⟨g, cap, cur, rfl, _, hh, _⟩
  · cases hk
  · simp only [Value.ownBlock, Option.some.injEq] at hk
    subst hk
    exact ⟨_, hh⟩
/-- Blocks that change hold tokens. -/
def TokB (K : List Nat) (w : World) : Prop := ∀ k ∈ K, k < w.heap.size → ∃ c, w.heap[k]? = some (.cells c 31 (0, 0))
theorem TokB.of_row {w : World} {B size n : Nat} {v : Value} {xs : List Value} (h : w.ownsRow B 31 size v n xs) : TokB v.ownBlock.toList w := fun k hk _ => ownsRow_cells h (by simpa using hk)
theorem hasRow_tok {w w' : World} {K : List Nat} {e n : Nat} {v : Value} {xs : List Value} (h : HasRow w e v n xs) (hu : Upd K w w') (hK : TokB K w) (he : e ≠ 31) : HasRow w' e v n xs :=
  h.same fun k hk => hu.block k (h.blk hk) fun hm => by
    obtain ⟨c, hc⟩ := hK k hm (h.blk hk)
    exact hasRow_ne h hc he hk
theorem TMem.updT {lv K : List Nat} {w w' : World} {t : Tok} {pv dv : Value} (h : TMem lv w t pv dv) (hu : Upd K w w') (hK : TokB K w) : TMem lv w' t pv dv :=
  ⟨hasRow_tok h.params hu hK (by decide), hasRow_tok h.data hu hK (by decide), h.pOut, h.dOut, h.pNew, h.dNew⟩
theorem PP.updT {lv K : List Nat} {w w' : World} {p : Nat} {s : PS} (h : PP lv w p s) (hu : Upd K w w') (hK : TokB K w) : PP lv w' p s := by
  obtain ⟨iv, dv, av, h⟩ := h
  have hr : ∀ {B e n : Nat} {v : Value} {xs : List Value}, w.ownsRow B e 1 v n xs → e ≠ 31 → w'.ownsRow B e 1 v n xs := fun h he => ownsRow_same h fun k hk => hu.block k (ownsRow_blk h hk) fun hm => by
    obtain ⟨c, hc⟩ := hK k hm (ownsRow_blk h hk)
    obtain ⟨c', hc'⟩ := ownsRow_cells h hk
    rw [hc] at hc'; simp at hc'; exact he hc'.2.symm
  refine ⟨iv, dv, av, (hu.block p (blk_lt h.blk) fun hm => ?_).trans h.blk, hr h.inters (by decide), hr h.data (by decide), hr h.done (by decide), h.pIn, h.iIn, h.dIn, h.aIn, h.apart, Nat.zero_le _⟩
  obtain ⟨c, hc⟩ := hK p hm (blk_lt h.blk)
  have := h.blk
  rw [hc] at this; simp at this
/-- Tokens are in no block that holds a parser. -/
theorem Toks.parser {lv : List Nat} {w : World} {ts : List Tok} {ov : Value} {qs : List (Value × Value)} {q : Nat} {c : Array Value} (h : Toks lv w ts ov qs) (hq : w.heap[q]? = some (.cells c 35 (0, 0))) : Toks [q] w ts ov qs :=
  ⟨h.row, h.len, fun i t x ht hx => by
    have := h.toks i t x ht hx
    exact ⟨this.params, this.data, fun k hk hm => by simp at hm; subst hm; exact hasRow_ne this.params hq (by decide) hk, fun k hk hm => by simp at hm; subst hm; exact hasRow_ne this.data hq (by decide) hk, this.pNew, this.dNew⟩,
   fun k hk hm => by simp at hm; subst hm; exact row_ne h.row hq (by decide) hk⟩

theorem Toks.updT {lv K : List Nat} {w w' : World} {ts : List Tok} {ov : Value} {qs : List (Value × Value)} (h : Toks lv w ts ov qs) (hu : Upd K w w') (hK : TokB K w) (hr : ∀ k, ov.ownBlock = some k → k ∉ K) : Toks lv w' ts ov qs :=
  ⟨ownsRow_same h.row fun k hk => hu.block k (ownsRow_blk h.row hk) (hr k hk), h.len, fun i t q ht hq => (h.toks i t q ht hq).updT hu hK, h.rOut⟩
/-- How far a stream that is cut is taken by the second parser. -/
structure ChunkAt (w w2 : World) (p q : Nat) (l : List Int) (r : PS × List Tok) (lvp : List Nat) (wv : Value) (qsw : List (Value × Value)) (wr : World) (k : Nat) (gv : Value) (gq : List (Value × Value)) (lvq : List Nat) : Prop where
  gr : Gr w wr
  ws : w.heap.size ≤ w2.heap.size
  siz : w2.heap.size ≤ wr.heap.size
  pp : PP lvp wr p r.1
  pl : Lvl w2 lvp
  pq : PP lvq wr q (feedM PS.init (l.take k)).1
  toks : Toks lvq wr (feedM PS.init (l.take k)).2 gv gq
  lvl : Lvl wr lvq
  own : OwnL w.heap.size lvq
  dis : Dis lvp lvq
  whole : Toks lvq wr r.2 wv qsw
  wlt : ∀ k, wv.ownBlock = some k → k < w2.heap.size
  gge : ∀ k, gv.ownBlock = some k → w2.heap.size ≤ k
theorem take_more (l : List Int) {k nx : Nat} (h : k ≤ nx) : l.take nx = l.take k ++ (l.drop k).take (nx - k) := by
  rw [← List.take_add]; congr 1; omega
theorem feed_more (l : List Int) {k nx : Nat} (h : k ≤ nx) : feedM PS.init (l.take nx) = ((feedM (feedM PS.init (l.take k)).1 ((l.drop k).take (nx - k))).1, (feedM PS.init (l.take k)).2 ++ (feedM (feedM PS.init (l.take k)).1 ((l.drop k).take (nx - k))).2) := by
  rw [take_more l h, feed_append]
/-- Both rows' tokens in one. -/
theorem Toks.app {lv : List Nat} {w w' : World} {ts ts2 : List Tok} {gv ov V : Value} {gq qs2 : List (Value × Value)} (h : Toks lv w ts gv gq) (h2 : Toks lv w ts2 ov qs2) (hgrow : w.grownBy w' gv.ownBlock)
    (hown : w'.ownsRow Bs.b 31 6 V (ts.length + ts2.length) (tsCells ts gq ++ tsCells ts2 qs2)) (hV : V.ownBlock = gv.ownBlock ∨ V.ownBlock = some w.heap.size) (hl : Lvl w lv) : Toks lv w' (ts ++ ts2) V (gq ++ qs2) := by
  have hu : Upd gv.ownBlock.toList w w' := .of_grown hgrow
  have hK := TokB.of_row h.row
  refine ⟨by rw [tsCells_app _ _ _ _ h.len]; simpa using hown, by simp [h.len, h2.len], fun i t x hi hx => ?_, fun k hk hm => ?_⟩
  · rcases Nat.lt_or_ge i ts.length with hlt | hge
    · rw [List.getElem?_append_left hlt] at hi
      rw [List.getElem?_append_left (by rw [h.len]; exact hlt)] at hx
      exact (h.toks i t x hi hx).updT hu hK
    · rw [List.getElem?_append_right hge] at hi
      rw [List.getElem?_append_right (by rw [h.len]; exact hge)] at hx
      rw [h.len] at hx
      exact (h2.toks _ t x hi hx).updT hu hK
  · rcases hV with e | e
    · exact h.rOut k (by rw [← e]; exact hk) hm
    · rw [e] at hk; injection hk with hk; subst hk
      exact absurd (hl _ hm) (by omega)
theorem ChunkAt.step {w w2 : World} {p q : Nat} {l : List Int} {r : PS × List Tok} {lvp : List Nat} {wv : Value} {qsw : List (Value × Value)} {wr : World} {k : Nat} {gv : Value} {gq : List (Value × Value)} {lvq : List Nat}
    (h : ChunkAt w w2 p q l r lvp wv qsw wr k gv gq lvq) {nx : Nat} (hk : k ≤ nx) {lv' : List Nat} {w' w'' : World} {ov V : Value} {qs2 : List (Value × Value)} (hs : Stp lvq wr lv' w') (hP : PP lv' w' q (feedM (feedM PS.init (l.take k)).1 ((l.drop k).take (nx - k))).1)
    (hT : Toks lv' w' (feedM (feedM PS.init (l.take k)).1 ((l.drop k).take (nx - k))).2 ov qs2) (hgrow : w'.grownBy w'' gv.ownBlock)
    (hown : w''.ownsRow 0 31 6 V ((feedM PS.init (l.take k)).2.length + (feedM (feedM PS.init (l.take k)).1 ((l.drop k).take (nx - k))).2.length) (tsCells (feedM PS.init (l.take k)).2 gq ++ tsCells (feedM (feedM PS.init (l.take k)).1 ((l.drop k).take (nx - k))).2 qs2))
    (hV : V.ownBlock = gv.ownBlock ∨ V.ownBlock = some w'.heap.size) : ChunkAt w w2 p q l r lvp wv qsw w'' nx V (gq ++ qs2) (trimL w' lv') := by
  obtain ⟨hg', ho'⟩ := hs.own h.gr h.own
  have hT1 := (h.toks.stp hs).sub (lv' := trimL w' lv') fun k hk => trimL_sub hk
  have hT2 := hT.sub (lv' := trimL w' lv') fun k hk => trimL_sub hk
  have hW := (h.whole.stp hs).sub (lv' := trimL w' lv') fun k hk => trimL_sub hk
  have hu : Upd gv.ownBlock.toList w' w'' := .of_grown hgrow
  have hK := TokB.of_row hT1.row
  have hdis := h.dis.stp (h.pl.mono h.siz) hs
  exact {
    gr := Below.grown hg' hgrow hg'.size fun j hj => Nat.le_trans h.ws (h.gge j hj)
    ws := h.ws
    siz := Nat.le_trans h.siz (Nat.le_trans hs.upd.size hu.size)
    pp := (h.pp.far hs h.dis).updT hu hK
    pl := h.pl
    pq := by rw [feed_more l hk]; exact hP.trimL.updT hu hK
    toks := by rw [feed_more l hk]; exact hT1.app hT2 hgrow hown hV (trimL_lvl _ _)
    lvl := (trimL_lvl _ _).mono hu.size
    own := fun j hj => ho' j (trimL_sub hj)
    dis := hdis.sub (fun _ h => h) fun _ h => trimL_sub h
    whole := hW.updT hu hK fun j hj hm => by
      have h1 := h.wlt j hj
      have h2 := h.gge j (by simpa using hm)
      omega
    wlt := h.wlt
    gge := fun j hj => by
      rcases hV with e | e
      · exact h.gge j (by rw [← e]; exact hj)
      · rw [e] at hj; injection hj with hj; subst hj; exact Nat.le_trans h.siz hs.upd.size }
end Go.Proofs.Ytgbmjlajheeciaa
