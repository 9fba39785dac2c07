/-
  The document's broken sequence, walked.
  The document's string, walked.
-/
import Derived.Test.YtgbmjlajheeciaaPcE
namespace Go.Proofs.Ytgbmjlajheeciaa
set_option linter.unusedSimpArgs false
set_option linter.unusedVariables false
section
open Go.RowKit

/-- What a function leaves that tells tokens and the place behind them. -/
def PartTo (w : World) (v : Value) (B : Nat) (l : List Int) (lo : Nat) (r : List Tok × Option (List Int)) (e : Ending) (w' : World) : Prop :=
  ∃ v' qs' nx, e = .returned (.agg #[v', .int .i64 nx]) ∧ RTs w' B r.1 v' qs' ∧ Upd v.ownBlock.toList w w' ∧ ((r.2 = none ∧ nx = -1) ∨ ∃ n : Nat, nx = n ∧ r.2 = some (l.drop n) ∧ lo ≤ n ∧ n ≤ l.length)
theorem RTs.setR {w : World} {B R : Nat} {ts : List Tok} {v : Value} {qs : List (Value × Value)} {c : Array Value} (h : RTs w B ts v qs) (hR : w.heap[R]? = some (.cells c 50 (0, 0))) (i : Nat) (u : Value) : RTs (w.setCell ⟨R, i, none⟩ u) B ts v qs :=
  h.upd (Upd.of_setCell w R i u) (fun k hk _ => by simp at hk; subst hk; exact ⟨_, _, hR, by decide, by decide⟩) (fun k hk => by simp; rintro rfl; exact row_ne h.row hR (by decide) hk)
/-- A result is stored. -/
theorem RTs.setRR {w : World} {B R : Nat} {ts : List Tok} {v : Value} {qs : List (Value × Value)} {c : Array Value} (h : RTs w B ts v qs) (hR : w.heap[R]? = some (.cells c 50 (0, 0))) (i j : Nat) (u x : Value) : RTs ((w.setCell ⟨R, i, none⟩ u).setCell ⟨R, j, none⟩ x) B ts v qs :=
  (h.setR hR i u).setR (blk_set hR i u) j x
theorem Upd.mono {K K' : List Nat} {a b : World} (h : Upd K a b) (hk : ∀ k ∈ K, k < a.heap.size → k ∈ K') : Upd K' a b := ⟨h.os, h.tape, h.output, h.size, fun k h1 h2 => h.block k h1 fun hm => h2 (hk k hm h1)⟩
theorem Upd.new {K : List Nat} {a w : World} (h : Upd K a w) {p : Addr} (hp : a.heap.size ≤ p.block) (u : Value) : Upd K a (w.setCell p u) :=
  ⟨by rw [← h.os]; simp [World.setCell], by rw [← h.tape]; simp [World.setCell], by rw [← h.output]; simp [World.setCell], by have := h.size; simpa using this, fun k hk hn => by
    rw [Below.heap_setCell _ _ _ _ (by omega)]; exact h.block k hk hn⟩
theorem Grew.updK {w0 w w1 : World} {v V : Value} {g : Nat} {K : List Nat} (h : Grew w w1 v V g) (h0 : Upd K w0 w) (hv : ∀ k, v.ownBlock = some k → k < w0.heap.size → k ∈ K) : Upd K w0 w1 :=
  ⟨h.grown.os.trans h0.os, h.grown.tape.trans h0.tape, h.grown.output.trans h0.output, Nat.le_trans h0.size h.grown.size, fun k hk hn =>
    (h.grown.block k (Nat.lt_of_lt_of_le hk h0.size) fun e => hn (hv k e.symm hk)).trans (h0.block k hk hn)⟩

set_option maxRecDepth 100000 in
set_option maxHeartbeats 1000000 in
theorem rbroken_walk {w : World} {a : Option Addr} {n cap at_ B : Nat} {l : List Int} {ts : List Tok} {v : Value} {qs : List (Value × Value)} {c : Int} (hc : l[at_]? = some c) (hn : n ≤ 80000) (ht : ts.length ≤ 200000) (hr : Rd w a n (bcells l)) (hT : RTs w B ts v qs) (hB : B ≤ w.heap.size) :
    Calls Try.prog 41 #[.slice a n cap, .int .i64 (at_ : Int), v] w (PartTo w v B l at_ (brokenR (l.drop at_) ts)) := by
  have hln : l.length = n := by simpa [bcells] using hr.1
  have hlt : at_ < l.length := (List.getElem?_eq_some_iff.1 hc).1
  have hd : l.drop at_ = c :: l.drop (at_ + 1) := drop_cons hc
  rw [hd]
  obtain ⟨b, off, c', rfl, hc', hcell, hb⟩ := hr.byte (k := at_) (by omega)
  rw [hc] at hc'
  injection hc' with hc'
  subst hc'
  obtain ⟨ta, tc, rfl⟩ := row_form hT.row
  have HD := Lib.hid hd
  have HC := Lib.hid hc
  have han : (at_ : Int) < (n : Int) := by omega
  have hlen2 : at_ + 1 ≤ l.length := by omega
  have HL := Lib.hid hln
  clear hd hc hr hln
  have hg0 : Gr w (w.alloc (.cells #[.slice none 0 0, .int .i64 0] 50)) := (Gr.refl w).alloc _
  have hR := heap_alloc_new w (.cells #[.slice none 0 0, .int .i64 0] 50)
  by_cases h24 : c = 24
  · subst h24
    have e : brokenR (24 :: l.drop (at_ + 1)) ts = (ts, some (l.drop (at_ + 1))) := by simp [brokenR]
    rw [e]
    go_enter Try.func41, Try.ntmps41
    go_wp2_with fail
    refine bodyPost_ret (v := .agg #[.slice ta ts.length tc, .int .i64 ((at_ : Int) + 1)]) (by simp [results, Try.results41, go_sem, *]) rfl ?_
    exact ⟨_, qs, _, rfl, hT.gr ((Gr.refl _).alloc _), Upd.of_gr ((Gr.refl _).alloc _), .inr ⟨at_ + 1, by simp, rfl, by omega, by omega⟩⟩
  · have q24 : (c == 24) = false := by simpa using h24
    by_cases h26 : c = 26
    · subst h26
      have e : brokenR (26 :: l.drop (at_ + 1)) ts = (ts ++ [ctrlT 26], some (l.drop (at_ + 1))) := by simp [brokenR]
      rw [e]
      clear h24
      go_enter Try.func41, Try.ntmps41
      go_wp2_with (first
        | (go_at_call 24; refine (rctrl_lit _ _).mono ?_; rintro e w1 ⟨rfl, hg1⟩
           have hg2 : Gr w w1 := hg0.trans hg1
           have hz1 := blk_lt (hg1.blk hR))
        | (at_builtin; refine wpList_pushN rfl _ _ _ rfl B 52 _ 6 80 Try.underlying25 rtoken_info rfl (by omega) (by omega) _ _ _ (tcells (ctrlT 26) (.slice none 0 0, .slice none 0 0)) (ownsRow_gr hT.row (hg2.alloc _)) _ rfl rfl (heap_alloc_new _ _) rfl (nil_one _) (by omega) (Nat.le_trans hB (gr_le (hg2.alloc _))) ?_
           intro g cap w2 hG hown
           have hR2 := (hG.new (by simp; omega) (row_ne (hT.gr hg0).row hR (by decide))).trans ((hg1.alloc _).blk hR)
           obtain ⟨s0, s1, sf⟩ := cells2 hR2))
      refine bodyPost_ret (v := .agg #[.slice (some ⟨g, 0, none⟩) (ts.length + 1) cap, .int .i64 ((at_ : Int) + 1)]) (by simp [results, Try.results41, go_sem, *]) rfl ?_
      have hp := (hT.gr (hg2.alloc _)).push (rtok_ctrl _ 26) hG hown
      refine ⟨_, _, _, rfl, hp.setRR hR2 _ _ _ _, ?_, .inr ⟨at_ + 1, by simp, rfl, by omega, by omega⟩⟩
      exact ((hG.updK (Upd.of_gr (hg2.alloc _)) (fun k hk _ => by rw [hk]; simp)).new (Nat.le_refl _) _).new (Nat.le_refl _) _
    · have q26 : (c == 26) = false := by simpa using h26
      have e : brokenR (c :: l.drop (at_ + 1)) ts = (ts, some (l.drop at_)) := by simp [brokenR, h24, h26, HD.out]
      rw [e]
      clear h24 h26
      go_enter Try.func41, Try.ntmps41
      go_wp2_with fail
      refine bodyPost_ret (v := .agg #[.slice ta ts.length tc, .int .i64 (at_ : Int)]) (by simp [results, Try.results41, go_sem, *]) rfl ?_
      exact ⟨_, qs, _, rfl, hT.gr ((Gr.refl _).alloc _), Upd.of_gr ((Gr.refl _).alloc _), .inr ⟨at_, by simp, rfl, by omega, by omega⟩⟩
end
section
open Go.RowKit

/-- A token in its box. -/
def xcells (t : Tok) (pv dv : Value) : Array Value := #[.int .i64 t.kind, .int .u8 t.code, .int .u8 t.mark, pv, .string (strOf t.inters), dv]
structure StrMem (w : World) (t : Tok) (pv dv : Value) (wr : World) : Prop where
  blk : wr.heap[w.heap.size]? = some (.cells (xcells t pv dv) 52 (0, 0))
  params : HasRow wr 3 pv t.params.length (icells t.params)
  data : wr.ownsRow w.heap.size 5 1 dv t.data.length (bcells t.data)
  gr : Gr w wr
  res : wr.heap[w.heap.size + 1]? = some (.cells #[.slice none 0 0, .int .i64 0] 50 (0, 0))
theorem StrMem.push {w wr W w1 : World} {t : Tok} {pv dv V : Value} {g : Nat} {c : Int} (h : StrMem w t pv dv wr) (hg : Gr wr W) (hG : Grew W w1 dv V g)
    (hown : w1.ownsRow w.heap.size 5 1 V (t.data.length + 1) (bcells t.data ++ [.int .u8 c])) : StrMem w { t with data := t.data ++ [c] } pv V (w1.setCell ⟨w.heap.size, 5, none⟩ V) := by
  have hX : dv.ownBlock ≠ some w.heap.size := row_ne h.data h.blk (by decide)
  have hR : dv.ownBlock ≠ some (w.heap.size + 1) := row_ne h.data h.res (by decide)
  have hXW : w.heap.size < W.heap.size := Nat.lt_of_lt_of_le (blk_lt h.blk) hg.size
  have hRW : w.heap.size + 1 < W.heap.size := Nat.lt_of_lt_of_le (blk_lt h.res) hg.size
  have hgX : g ≠ w.heap.size := (hG.ne hXW hX).symm
  refine ⟨blk_set ((hG.new hXW hX).trans (hg.blk h.blk)) 5 V, (h.params.gr hg).same fun k hk => ?_, ?_, ?_, blk_far ((hG.new hRW hR).trans (hg.blk h.res)) (by simp) _⟩
  · rw [Below.heap_setCell _ _ _ _ (fun e => hasRow_ne h.params h.blk (by decide) (by rw [hk, e]))]
    refine hG.new ((h.params.gr hg).blk hk) fun e => ?_
    rcases h.data.2 with ⟨rfl, _⟩ | ⟨g', cap', cur', rfl, _, hh', _⟩
    · cases e
    · simp only [Value.ownBlock, Option.some.injEq] at e
      subst e
      exact hasRow_ne h.params hh' (by decide) hk
  · rw [show ({ t with data := t.data ++ [c] } : Tok).data.length = t.data.length + 1 by simp, show bcells ({ t with data := t.data ++ [c] } : Tok).data = bcells t.data ++ [.int .u8 c] by simp [bcells]]
    exact ownsRow_same hown fun k hk => by
      rw [hG.own] at hk; injection hk with hk; subst hk
      rw [Below.heap_setCell _ _ _ _ hgX]
  · exact (hG.gr (h.gr.trans hg) fun k hk => ownsRow_base h.data hk).setCell (Nat.le_refl _) _

/-- How far a string is read. -/
def StrPos (t0 : Tok) (good : Bool) (l : List Int) (at_ k : Nat) (ts : List Tok) (t : Tok) : Prop := strR t0 good (l.drop at_) ts = strR t good (l.drop k) ts
theorem str_end {t : Tok} {good : Bool} {l : List Int} {k : Nat} {ts : List Tok} (hk : l.length ≤ k) : strR t good (l.drop k) ts = (ts, none) := by rw [List.drop_eq_nil_of_le hk]; simp [strR]
theorem str_none {t : Tok} {good : Bool} {l : List Int} {k : Nat} {ts : List Tok} (hc : l[k]? = some 27) (hk : k + 1 = l.length) : strR t good (l.drop k) ts = (ts, none) := by
  rw [drop_cons hc, List.drop_eq_nil_of_le (by omega)]; simp [strR]
theorem str_st {t : Tok} {good : Bool} {l : List Int} {k : Nat} {ts : List Tok} {d : Int} (hc : l[k]? = some 27) (hd : l[k + 1]? = some d) (h92 : d % 128 = 92) :
    strR t good (l.drop k) ts = (if good = true ∧ t.data.length ≤ 4096 then ts ++ [t] else ts, some (l.drop (k + 2))) := by
  rw [drop_cons hc, drop_cons hd]; simp [strR, h92]
theorem str_bell {t : Tok} {good : Bool} {l : List Int} {k : Nat} {ts : List Tok} (hc : l[k]? = some 7) (hk : t.kind = 6) :
    strR t good (l.drop k) ts = (if good = true ∧ t.data.length ≤ 4096 then ts ++ [t] else ts, some (l.drop (k + 1))) := by
  rw [drop_cons hc]; simp [strR, hk]
theorem str_brk {t : Tok} {good : Bool} {l : List Int} {k : Nat} {ts : List Tok} {c : Int} (hc : l[k]? = some c) (hb : brk c = true) (h27 : c = 27 → ∃ d, l[k + 1]? = some d ∧ d % 128 ≠ 92) :
    strR t good (l.drop k) ts = brokenR (l.drop k) ts := by
  have h7 : c ≠ 7 := by rintro rfl; simp [brk] at hb
  by_cases h : c = 27
  · obtain ⟨d, hd, h92⟩ := h27 h
    rw [drop_cons hc, drop_cons hd]
    simp [strR, h, h92, brk]
  · rw [drop_cons hc]
    simp [strR, h, h7, hb]
theorem StrPos.next {t0 t : Tok} {good : Bool} {l : List Int} {at_ k : Nat} {ts : List Tok} {c : Int} (h : StrPos t0 good l at_ k ts t) (hc : l[k]? = some c) (hb : brk c = false) (h7 : ¬ (c = 7 ∧ t.kind = 6)) :
    StrPos t0 good l at_ (k + 1) ts { t with data := if dataOk c then t.data ++ [c] else t.data } := by
  have h27 : c ≠ 27 := by rintro rfl; simp [brk] at hb
  unfold StrPos at h ⊢
  rw [h, drop_cons hc, strR]
  rw [if_neg (fun x => h27 x.1), if_neg (fun x => h27 x.1), if_neg h7, if_neg (by simp [hb])]
end
end Go.Proofs.Ytgbmjlajheeciaa
