/-
  The document's header of a sequence, walked.
-/
import Derived.Test.YtgbmjlajheeciaaPcC
namespace Go.Proofs.Ytgbmjlajheeciaa
set_option linter.unusedSimpArgs false
set_option linter.unusedVariables false
open Go.RowKit

theorem rtoken_info : (Try.prog.info? 52).map (fun i => (i.zero, i.size, i.bytes)) = some (some (.agg #[.int .i64 0, .int .u8 0, .int .u8 0, .slice none 0 0, .string ⟨#[]⟩, .slice none 0 0]), 6, 80) := by kernel_rfl

/-- The document's tokens in memory. -/
structure RTok (w : World) (t : Tok) (q : Value × Value) : Prop where
  params : HasRow w 3 q.1 t.params.length (icells t.params)
  data : HasRow w 5 q.2 t.data.length (bcells t.data)
structure RTs (w : World) (B : Nat) (ts : List Tok) (v : Value) (qs : List (Value × Value)) : Prop where
  row : w.ownsRow B 52 6 v ts.length (tsCells ts qs)
  len : qs.length = ts.length
  toks : ∀ (i : Nat) (t : Tok) (q : Value × Value), ts[i]? = some t → qs[i]? = some q → RTok w t q
theorem RTs.nil (w : World) (B : Nat) : RTs w B [] (.slice none 0 0) [] := ⟨World.ownsRow_nil _ _ _ _, rfl, by simp⟩
theorem hasRow_ne {w : World} {e e' n g : Nat} {v : Value} {xs : List Value} {c : Array Value} (h : HasRow w e v n xs) (hg : w.heap[g]? = some (.cells c e' (0, 0))) (hne : e ≠ e') : v.ownBlock ≠ some g := by
  intro hk
  rcases h.2 with ⟨rfl, _⟩ | ⟨g', cap, cur, rfl, hh, _⟩
  · cases hk
  simp only [Value.ownBlock, Option.some.injEq] at hk
  subst hk
  rw [hh] at hg
  simp at hg
  exact hne hg.2
/-- The block of a row of the document's tokens. -/
theorem RTs.blk {w : World} {B : Nat} {ts : List Tok} {v : Value} {qs : List (Value × Value)} (h : RTs w B ts v qs) {k : Nat} (hk : v.ownBlock = some k) : ∃ c, w.heap[k]? = some (.cells c 52 (0, 0)) := by
  rcases h.row.2 with ⟨rfl, _⟩ | ⟨g, cap, cur, rfl, _, hh, _⟩
  · cases hk
  · simp only [Value.ownBlock, Option.some.injEq] at hk
    subst hk
    exact ⟨_, hh⟩
theorem RTok.upd {w w' : World} {K : List Nat} {t : Tok} {q : Value × Value} (h : RTok w t q) (hu : Upd K w w') (hK : ∀ k ∈ K, k < w.heap.size → ∃ c e, w.heap[k]? = some (.cells c e (0, 0)) ∧ e ≠ 3 ∧ e ≠ 5) : RTok w' t q :=
  ⟨h.params.same fun k hk => hu.block k (h.params.blk hk) fun hm => by
      obtain ⟨c, e, hc, h1, h2⟩ := hK k hm (h.params.blk hk)
      exact hasRow_ne h.params hc (fun x => h1 x.symm) hk,
    h.data.same fun k hk => hu.block k (h.data.blk hk) fun hm => by
      obtain ⟨c, e, hc, h1, h2⟩ := hK k hm (h.data.blk hk)
      exact hasRow_ne h.data hc (fun x => h2 x.symm) hk⟩
theorem RTok.gr {w w' : World} {t : Tok} {q : Value × Value} (h : RTok w t q) (hg : Gr w w') : RTok w' t q := ⟨h.params.gr hg, h.data.gr hg⟩
theorem RTs.gr {w w' : World} {B : Nat} {ts : List Tok} {v : Value} {qs : List (Value × Value)} (h : RTs w B ts v qs) (hg : Gr w w') : RTs w' B ts v qs :=
  ⟨ownsRow_gr h.row hg, h.len, fun i t q ht hq => (h.toks i t q ht hq).gr hg⟩
/-- Only other blocks have changed, that hold no numbers or bytes. -/
theorem RTs.upd {w w' : World} {K : List Nat} {B : Nat} {ts : List Tok} {v : Value} {qs : List (Value × Value)} (h : RTs w B ts v qs) (hu : Upd K w w') (hK : ∀ k ∈ K, k < w.heap.size → ∃ c e, w.heap[k]? = some (.cells c e (0, 0)) ∧ e ≠ 3 ∧ e ≠ 5)
    (hv : ∀ k, v.ownBlock = some k → k ∉ K) : RTs w' B ts v qs :=
  ⟨ownsRow_same h.row fun k hk => hu.block k (ownsRow_blk h.row hk) (hv k hk), h.len, fun i t q ht hq => (h.toks i t q ht hq).upd hu hK⟩
theorem Upd.of_setCell (w : World) (g i : Nat) (u : Value) : Upd [g] w (w.setCell ⟨g, i, none⟩ u) :=
  ⟨by simp [World.setCell], by simp [World.setCell], by simp [World.setCell], by simp, fun k _ hn => Below.heap_setCell _ _ _ _ (by simpa using hn)⟩
theorem Upd.of_grown {w w' : World} {row : Option Nat} (h : w.grownBy w' row) : Upd row.toList w w' :=
  ⟨h.os, h.tape, h.output, h.size, fun k hk hn => h.block k hk fun e => hn (by simp [← e])⟩
/-- A token more. -/
theorem RTs.push {w w1 : World} {B : Nat} {ts : List Tok} {v V : Value} {qs : List (Value × Value)} {g : Nat} {t : Tok} {q : Value × Value} (h : RTs w B ts v qs) (ht : RTok w t q) (hG : Grew w w1 v V g)
    (hown : w1.ownsRow B 52 6 V (ts.length + 1) (tsCells ts qs ++ tcells t q)) : RTs w1 B (ts ++ [t]) V (qs ++ [q]) := by
  have hK : ∀ k ∈ v.ownBlock.toList, k < w.heap.size → ∃ c e, w.heap[k]? = some (.cells c e (0, 0)) ∧ e ≠ 3 ∧ e ≠ 5 := by
    intro k hk _
    obtain ⟨c, hc⟩ := h.blk (k := k) (by simpa using hk)
    exact ⟨c, _, hc, by decide, by decide⟩
  refine ⟨by rw [tsCells_append _ _ _ _ h.len]; simpa using hown, by simp [h.len], ?_⟩
  intro i t' q' hi hq
  rcases Nat.lt_or_ge i ts.length with hlt | hge
  · rw [List.getElem?_append_left hlt] at hi
    rw [List.getElem?_append_left (by rw [h.len]; exact hlt)] at hq
    exact (h.toks i t' q' hi hq).upd (.of_grown hG.grown) hK
  · rw [List.getElem?_append_right hge] at hi
    rw [List.getElem?_append_right (by rw [h.len]; exact hge)] at hq
    have hi0 : i - ts.length = 0 := by
      rcases hx : i - ts.length with _ | n
      · rfl
      · rw [hx] at hi; simp at hi
    rw [hi0] at hi
    rw [h.len, hi0] at hq
    simp at hi hq
    subst hi; subst hq
    exact ht.upd (.of_grown hG.grown) hK
theorem rtok_ctrl (w : World) (c : Int) : RTok w (ctrlT c) (.slice none 0 0, .slice none 0 0) := ⟨.nil _ _, .nil _ _⟩

/-- How far a header is read. -/
def HdrPos (last : Int) (l : List Int) (at_ k : Nat) (ts : List Tok) (bs : List Int) : Prop :=
  hdr last (l.drop at_) = ⟨ts ++ (hdr last (l.drop k)).toks, bs ++ (hdr last (l.drop k)).bytes, (hdr last (l.drop k)).rest, (hdr last (l.drop k)).ended⟩
theorem drop_cons {l : List Int} {k : Nat} {c : Int} (h : l[k]? = some c) : l.drop k = c :: l.drop (k + 1) := by
  obtain ⟨hk, he⟩ := List.getElem?_eq_some_iff.1 h
  rw [List.drop_eq_getElem_cons hk, he]
theorem HdrPos.ctrl {last : Int} {l : List Int} {at_ k : Nat} {ts : List Tok} {bs : List Int} {c : Int} (h : HdrPos last l at_ k ts bs) (hc : l[k]? = some c) (hb : brk c = false) (h32 : c < 32) : HdrPos last l at_ (k + 1) (ts ++ [ctrlT c]) bs := by
  unfold HdrPos at h ⊢
  rw [h, drop_cons hc]
  simp [hdr, hb, h32]
theorem HdrPos.skip {last : Int} {l : List Int} {at_ k : Nat} {ts : List Tok} {bs : List Int} {c : Int} (h : HdrPos last l at_ k ts bs) (hc : l[k]? = some c) (hb : brk c = false) (h32 : ¬ c < 32) (h127 : c % 128 = 127) : HdrPos last l at_ (k + 1) ts bs := by
  unfold HdrPos at h ⊢
  rw [h, drop_cons hc]
  simp [hdr, hb, h32, h127]
theorem HdrPos.byte {last : Int} {l : List Int} {at_ k : Nat} {ts : List Tok} {bs : List Int} {c : Int} (h : HdrPos last l at_ k ts bs) (hc : l[k]? = some c) (hb : brk c = false) (h32 : ¬ c < 32) (h127 : ¬ c % 128 = 127) (hl : ¬ last ≤ c % 128) : HdrPos last l at_ (k + 1) ts (bs ++ [c % 128]) := by
  unfold HdrPos at h ⊢
  rw [h, drop_cons hc]
  simp [hdr, hb, h32, h127, hl]
theorem HdrPos.last {last : Int} {l : List Int} {at_ k : Nat} {ts : List Tok} {bs : List Int} {c : Int} (h : HdrPos last l at_ k ts bs) (hc : l[k]? = some c) (hb : brk c = false) (h32 : ¬ c < 32) (h127 : ¬ c % 128 = 127) (hl : last ≤ c % 128) : hdr last (l.drop at_) = ⟨ts, bs ++ [c % 128], l.drop (k + 1), 1⟩ := by
  unfold HdrPos at h
  rw [h, drop_cons hc]
  simp [hdr, hb, h32, h127, hl]
theorem HdrPos.brk {last : Int} {l : List Int} {at_ k : Nat} {ts : List Tok} {bs : List Int} {c : Int} (h : HdrPos last l at_ k ts bs) (hc : l[k]? = some c) (hb : brk c = true) : hdr last (l.drop at_) = ⟨ts, bs, l.drop k, 2⟩ := by
  unfold HdrPos at h
  rw [h, drop_cons hc]
  simp [hdr, hb]
theorem HdrPos.end {last : Int} {l : List Int} {at_ k : Nat} {ts : List Tok} {bs : List Int} (h : HdrPos last l at_ k ts bs) (hk : l.length ≤ k) : hdr last (l.drop at_) = ⟨ts, bs, [], 0⟩ := by
  unfold HdrPos at h
  rw [h, List.drop_eq_nil_of_le hk]
  simp [hdr]

/-- No token has memory of its own. -/
def NilQ (qs : List (Value × Value)) : Prop := ∀ q ∈ qs, q = (.slice none 0 0, .slice none 0 0)
theorem NilQ.push {qs : List (Value × Value)} (h : NilQ qs) : NilQ (qs ++ [(.slice none 0 0, .slice none 0 0)]) := by
  intro q hq
  rcases List.mem_append.1 hq with hq | hq
  · exact h q hq
  · simpa using hq
theorem NilQ.append {qs rs : List (Value × Value)} (h : NilQ qs) (k : NilQ rs) : NilQ (qs ++ rs) := by
  intro q hq
  rcases List.mem_append.1 hq with hq | hq
  · exact h q hq
  · exact k q hq
theorem hasRow_nil {w w' : World} {e n : Nat} {xs : List Value} (h : HasRow w e (.slice none 0 0) n xs) : HasRow w' e (.slice none 0 0) n xs := by
  refine ⟨h.1, ?_⟩
  rcases h.2 with ⟨_, h0⟩ | ⟨g, cap, cur, hv, _⟩
  · exact .inl ⟨rfl, h0⟩
  · cases hv
theorem RTs.keepNil {w w' : World} {B B' : Nat} {ts : List Tok} {v v' : Value} {qs : List (Value × Value)} (h : RTs w B ts v qs) (hn : NilQ qs) (hrow : w'.ownsRow B' 52 6 v' ts.length (tsCells ts qs)) : RTs w' B' ts v' qs :=
  ⟨hrow, h.len, fun i t q ht hq => by
    have := h.toks i t q ht hq
    have e := hn q (List.mem_of_getElem? hq)
    subst e
    exact ⟨hasRow_nil this.params, hasRow_nil this.data⟩⟩

/-- What reading a header leaves. -/
def HeaderTo (w : World) (l : List Int) (at_ : Nat) (h : HR) (e : Ending) (w' : World) : Prop := ∃ tv qs bv nx, e = .returned (.agg #[tv, bv, .int .i64 nx, .int .i64 (h.ended : Int)]) ∧ RTs w' w.heap.size h.toks tv qs ∧ NilQ qs ∧ w'.ownsRow w.heap.size 5 1 bv h.bytes.length (bcells h.bytes) ∧
  (h.ended ≠ 0 → ∃ n : Nat, nx = n ∧ h.rest = l.drop n ∧ at_ ≤ n ∧ n ≤ l.length) ∧ Gr w w'
/-- What is read of a header, in memory. -/
structure HMem (w : World) (B H : Nat) (ts : List Tok) (bs : List Int) (tv bv : Value) (qs : List (Value × Value)) (wr : World) : Prop where
  blk : wr.heap[H]? = some (.cells #[tv, bv, .int .i64 0, .int .i64 0] 68 (0, 0))
  toks : RTs wr B ts tv qs
  nq : NilQ qs
  bytes : wr.ownsRow B 5 1 bv bs.length (bcells bs)
  gr : Gr w wr
theorem HMem.byte {w wr W w1 : World} {B H g : Nat} {ts : List Tok} {bs : List Int} {tv bv V : Value} {qs : List (Value × Value)} {c : Int} (h : HMem w B H ts bs tv bv qs wr) (hg : Gr wr W) (hG : Grew W w1 bv V g)
    (hown : w1.ownsRow B 5 1 V (bs.length + 1) (bcells bs ++ [.int .u8 c])) (hB : w.heap.size ≤ B) (hH : w.heap.size ≤ H) : HMem w B H ts (bs ++ [c]) tv V qs (w1.setCell ⟨H, 1, none⟩ V) := by
  have hHW : H < W.heap.size := Nat.lt_of_lt_of_le (blk_lt h.blk) hg.size
  have hbH : bv.ownBlock ≠ some H := row_ne h.bytes h.blk (by decide)
  have htH : ∀ k, tv.ownBlock = some k → k ≠ H := fun k hk e => row_ne h.toks.row h.blk (by decide) (e ▸ hk)
  have hgH : g ≠ H := (hG.ne hHW hbH).symm
  refine ⟨blk_set ((hG.new hHW hbH).trans (hg.blk h.blk)) 1 V, h.toks.keepNil h.nq (ownsRow_same (ownsRow_gr h.toks.row hg) fun k hk => ?_), h.nq, ?_, ?_⟩
  · rw [Below.heap_setCell _ _ _ _ (htH k hk)]
    exact hG.new (ownsRow_blk (ownsRow_gr h.toks.row hg) hk) (row_type h.toks.row h.bytes (by decide) hk)
  · rw [show (bs ++ [c]).length = bs.length + 1 by simp, show bcells (bs ++ [c]) = bcells bs ++ [.int .u8 c] by simp [bcells]]
    exact ownsRow_same hown fun k hk => by
      rw [hG.own] at hk; injection hk with hk; subst hk
      rw [Below.heap_setCell _ _ _ _ hgH]
  · exact (hG.gr (h.gr.trans hg) fun k hk => Nat.le_trans hB (ownsRow_base h.bytes hk)).setCell hH _
theorem HMem.ctrl {w wr W w1 : World} {B H g : Nat} {ts : List Tok} {bs : List Int} {tv bv V : Value} {qs : List (Value × Value)} {c : Int} (h : HMem w B H ts bs tv bv qs wr) (hg : Gr wr W) (hG : Grew W w1 tv V g)
    (hown : w1.ownsRow B 52 6 V (ts.length + 1) (tsCells ts qs ++ tcells (ctrlT c) (.slice none 0 0, .slice none 0 0))) (hB : w.heap.size ≤ B) (hH : w.heap.size ≤ H) :
    HMem w B H (ts ++ [ctrlT c]) bs V bv (qs ++ [(.slice none 0 0, .slice none 0 0)]) (w1.setCell ⟨H, 0, none⟩ V) := by
  have hHW : H < W.heap.size := Nat.lt_of_lt_of_le (blk_lt h.blk) hg.size
  have htH : tv.ownBlock ≠ some H := row_ne h.toks.row h.blk (by decide)
  have hbH : ∀ k, bv.ownBlock = some k → k ≠ H := fun k hk e => row_ne h.bytes h.blk (by decide) (e ▸ hk)
  have hgH : g ≠ H := (hG.ne hHW htH).symm
  have hp := (h.toks.gr hg).push (rtok_ctrl W c) hG hown
  refine ⟨blk_set ((hG.new hHW htH).trans (hg.blk h.blk)) 0 V, hp.keepNil h.nq.push (ownsRow_same hp.row fun k hk => ?_), h.nq.push, ?_, ?_⟩
  · rw [hG.own] at hk; injection hk with hk; subst hk
    rw [Below.heap_setCell _ _ _ _ hgH]
  · exact ownsRow_same (ownsRow_gr h.bytes hg) fun k hk => by
      rw [Below.heap_setCell _ _ _ _ (hbH k hk)]
      exact hG.new (ownsRow_blk (ownsRow_gr h.bytes hg) hk) (row_type h.bytes h.toks.row (by decide) hk)
  · exact (hG.gr (h.gr.trans hg) fun k hk => Nat.le_trans hB (ownsRow_base h.toks.row hk)).setCell hH _
end Go.Proofs.Ytgbmjlajheeciaa
