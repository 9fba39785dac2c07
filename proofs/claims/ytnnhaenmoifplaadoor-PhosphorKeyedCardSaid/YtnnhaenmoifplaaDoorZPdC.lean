/-
  Two rows of tokens that are alike are found alike: the document's Same, and the laws' Are, walked.
  The laws' Are, walked: a row of tokens against a row of the document's, both the same list.
  What the parser's laws call besides: Idle, Split, short; a slice that came in, cut and appended.
-/
import Derived.BigQuiet
import Derived.Deep.MidRow
import Derived.Deep.QuietTactic
import Derived.Maps.AppendAt
import Derived.Test.YtnnhaenmoifplaaDoorZPcQ
namespace Go.Proofs.YtnnhaenmoifplaaDoor
set_option linter.unusedSimpArgs false
set_option linter.unusedVariables false
open Go.RowKit

theorem HasRow.at_ {w : World} {e n : Nat} {v : Value} {xs : List Value} (h : HasRow w e v n xs) {k : Nat} (hk : k < n) : ∃ g cap u, v = .slice (some ⟨g, 0, none⟩) n cap ∧ xs[k]? = some u ∧ w.cell? ⟨g, k, none⟩ = some u := by
  have hl := h.1
  rcases h.2 with ⟨_, h0⟩ | ⟨g, cap, cur, hv, hh, hn, hc, ht⟩
  · omega
  · have hu : xs[k]? = some xs[k] := List.getElem?_eq_getElem (by omega)
    exact ⟨g, cap, _, hv, hu, h.cells (g := g) (by rw [hv]; rfl) k _ hu⟩
theorem icells_at {l : List Int} {k : Nat} {u : Value} (h : (icells l)[k]? = some u) : u = .int .i64 (l.getD k 0) := by
  simp only [icells, List.getElem?_map] at h
  rcases hx : l[k]? with _ | x
  · rw [hx] at h; cases h
  · rw [hx] at h; simp at h; simp [List.getD, hx, h]

theorem tsCells_at : ∀ (ts : List Tok) (qs : List (Value × Value)) (i j : Nat) (t : Tok) (q : Value × Value), ts[i]? = some t → qs[i]? = some q → j < 6 → (tsCells ts qs)[i * 6 + j]? = (tcells t q)[j]? := by
  intro ts
  induction ts with
  | nil => intro qs i j t q h; simp at h
  | cons t ts ih =>
    intro qs i j t' q' ht hq hj
    cases qs with
    | nil => simp at hq
    | cons q qs =>
      simp only [tsCells]
      rcases i with _ | i
      · simp at ht hq
        subst ht; subst hq
        rw [List.getElem?_append_left (by simp [tcells]; omega)]
        simp
      · rw [List.getElem?_append_right (by simp [tcells]; omega)]
        have := ih qs i j t' q' (by simpa using ht) (by simpa using hq) hj
        rw [← this]
        congr 1
        simp [tcells]; omega
/-- A token of a row. -/
theorem tok_range {w : World} {B e : Nat} {v : Value} {n : Nat} {ts : List Tok} {qs : List (Value × Value)} (h : w.ownsRow B e 6 v n (tsCells ts qs)) (hl : qs.length = ts.length) {i : Nat} (hi : i < ts.length) :
    ∃ g cap t q, v = .slice (some ⟨g, 0, none⟩) n cap ∧ ts[i]? = some t ∧ qs[i]? = some q ∧ w.rangeAt g (i * 6) (tcells t q) := by
  obtain ⟨t, ht⟩ : ∃ t, ts[i]? = some t := ⟨_, List.getElem?_eq_getElem hi⟩
  obtain ⟨q, hq⟩ : ∃ q, qs[i]? = some q := ⟨_, List.getElem?_eq_getElem (by omega)⟩
  have h0 := tsCells_at ts qs i 0 t q ht hq (by omega)
  rcases h.2 with ⟨_, hx⟩ | ⟨g, cap, cur, hv, _, hh, hn, _, hs, hk⟩
  · have h1 := h.1
    have h2 : (tsCells ts qs)[i * 6 + 0]? = none := List.getElem?_eq_none (by omega)
    rw [h2] at h0; simp [tcells] at h0
  · refine ⟨g, cap, t, q, hv, ht, hq, fun j u hj => ?_⟩
    have hj6 : j < 6 := by
      have := (List.getElem?_eq_some_iff.1 hj).1
      simpa [tcells] using this
    refine cell_of_row hh _ _ ?_
    have := tsCells_at ts qs i j t q ht hq hj6
    rw [hj, ← hk, List.getElem?_take] at this
    split at this
    · simpa using this
    · cases this

end Go.Proofs.YtnnhaenmoifplaaDoor

namespace Go.Proofs.YtnnhaenmoifplaaDoor
set_option linter.unusedSimpArgs false
set_option linter.unusedVariables false
open Go.RowKit

/-- A row of tokens, of the program's type or the document's. -/
structure AT (e : TypeId) (w : World) (ts : List Tok) (v : Value) (qs : List (Value × Value)) : Prop where
  row : w.ownsRow 0 e 6 v ts.length (tsCells ts qs)
  len : qs.length = ts.length
  toks : ∀ (i : Nat) (t : Tok) (q : Value × Value), ts[i]? = some t → qs[i]? = some q → RTok w t q
theorem TMem.rt {lv : List Nat} {w : World} {t : Tok} {pv dv : Value} (h : TMem lv w t pv dv) : RTok w t (pv, dv) := ⟨h.params, h.data⟩
theorem Toks.at_ {lv : List Nat} {w : World} {ts : List Tok} {ov : Value} {qs : List (Value × Value)} (h : Toks lv w ts ov qs) : AT 34 w ts ov qs :=
  ⟨h.row, h.len, fun i t q ht hq => (h.toks i t q ht hq).rt⟩
theorem AT.gr {e : TypeId} {w w' : World} {ts : List Tok} {v : Value} {qs : List (Value × Value)} (h : AT e w ts v qs) (hg : Gr w w') : AT e w' ts v qs :=
  ⟨ownsRow_gr h.row hg, h.len, fun i t q ht hq => (h.toks i t q ht hq).gr hg⟩

end Go.Proofs.YtnnhaenmoifplaaDoor

namespace Go.Proofs.YtnnhaenmoifplaaDoor
set_option linter.unusedSimpArgs false
set_option linter.unusedVariables false
open Go.RowKit

/-! ### The tokens' numbers are few -/
theorem init_ok : PS.init.ok := ⟨by decide, by decide, by decide, by decide, by decide, by decide, by decide, by decide⟩

/-! ### Blocks of a call's own -/
def OwnL (B : Nat) (lv : List Nat) : Prop := ∀ k ∈ lv, B ≤ k
theorem Stp.own {w0 w w' : World} {lv lv' : List Nat} (h : Stp lv w lv' w') (hg : Gr w0 w) (ho : OwnL w0.heap.size lv) : Gr w0 w' ∧ OwnL w0.heap.size lv' := by
  refine ⟨⟨h.upd.os.trans hg.os, h.upd.tape.trans hg.tape, h.upd.output.trans hg.output, Nat.le_trans hg.size h.upd.size, fun k hk => ?_⟩, fun k hk => ?_⟩
  · rw [h.upd.block k (Nat.lt_of_lt_of_le hk hg.size) (fun hm => by have := ho k hm; omega)]
    exact hg.block k hk
  · rcases h.new k hk with h1 | h1
    · exact ho k h1
    · exact Nat.le_trans hg.size h1
/-- A slice that is cut. -/
theorem Rd.cut {w : World} {a : Option Addr} {n : Nat} {xs : List Value} (h : Rd w a n xs) {lo hi : Nat} (h1 : lo ≤ hi) (h2 : hi ≤ n) (b : Bool) (hb : b = true → hi - lo = 0) : Rd w (if b = true then a else a.map (·.add lo)) (hi - lo) ((xs.drop lo).take (hi - lo)) := by
  refine ⟨by simp [h.1]; omega, ?_⟩
  rcases Nat.eq_zero_or_pos (hi - lo) with h0 | h0
  · exact .inl h0
  · refine .inr ?_
    have hbf : ¬ b = true := fun e => by have := hb e; omega
    rw [if_neg hbf]
    rcases h.2 with hn | ⟨g, off, rfl, hc⟩
    · omega
    · refine ⟨g, off + lo, by simp only [Option.map_some]; rcases lo with _ | j <;> simp [Addr.add], fun i u hi' => ?_⟩
      rw [List.getElem?_take] at hi'
      split at hi'
      · rw [List.getElem?_drop] at hi'
        rw [Nat.add_assoc]
        exact hc _ u hi'
      · cases hi'
/-- What was there is in no new block. -/
theorem Rd.out {w : World} {a : Option Addr} {n : Nat} {xs : List Value} (h : Rd w a n xs) (h0 : 0 < n) {k : Nat} (hk : w.heap.size ≤ k) : Out [k] a := by
  obtain ⟨b, off, u, rfl, _, _, hb⟩ := h.at_ h0
  intro x hx hm
  injection hx with hx
  subst hx
  simp at hm; omega
theorem cut_to {P : Program} {t : TypeId} (ht : P.underlying t = some (.slice (P.elem t))) (hs : ∀ w : World, (sizeOf (P.elem t)).run P w = .ok 1 w) (a : Option Addr) (n cap k : Nat) (hk : k ≤ n) (hn : n ≤ cap) :
    ∃ a', (∀ w, (Instr.slice t (.slice a n cap) none (some (.int .i64 k)) none).run P w = .ok (.slice a' k cap) w) ∧ ∀ w xs, Rd w a n xs → Rd w a' k (xs.take k) := by
  refine ⟨if cap = 0 then a else a.map (·.add 0), fun w => ?_, fun w xs h => ?_⟩
  · rw [run_slice_h w t a n cap ht .i64 k (by omega) (by omega), hs]
    simp [Result.andThen, sliced]
  · have := h.cut (lo := 0) (hi := k) (by omega) hk (decide (cap = 0)) (fun e => by have := of_decide_eq_true e; omega)
    simpa using this
theorem bcells_oneP (l : List Int) : ∀ u ∈ bcells l, u.oneCell' = true := by
  intro u hu
  simp only [bcells, List.mem_map] at hu
  obtain ⟨c, _, rfl⟩ := hu
  rfl
theorem HasRow.rd_ {w : World} {e n : Nat} {a : Option Addr} {c : Nat} {xs : List Value} (h : HasRow w e (.slice a n c) n xs) : Rd w a n xs := by
  refine ⟨h.1, ?_⟩
  rcases h.2 with ⟨_, h0⟩ | ⟨g, cap, cur, hv, _⟩
  · exact .inl h0
  · injection hv with ha
    exact .inr ⟨g, 0, ha, fun i u hi => by rw [Nat.zero_add]; exact h.cells (g := g) (by rw [ha]; rfl) i u hi⟩

theorem PP.gr {lv : List Nat} {w w' : World} {p : Nat} {s : PS} (h : PP lv w p s) (hg : Gr w w') : PP lv w' p s := by
  obtain ⟨iv, dv, av, h⟩ := h
  exact ⟨iv, dv, av, h.keep (Upd.of_gr (lv := []) hg) ((hg.block p (blk_lt h.blk)).trans h.blk) rfl rfl rfl (by simp) (by simp) (by simp)⟩
/-! ### The calls -/
theorem PP.new (w : World) : PP [w.heap.size] (w.alloc (.cells (pcells PS.init (.slice none 0 0) (.slice none 0 0) (.slice none 0 0)) 38)) w.heap.size PS.init :=
  ⟨_, _, _, heap_alloc_new w _, World.ownsRow_nil _ _ _ _, World.ownsRow_nil _ _ _ _, World.ownsRow_nil _ _ _ _, by simp, by simp [Value.ownBlock], by simp [Value.ownBlock], by simp [Value.ownBlock], by simp [Value.ownBlock], Nat.zero_le _⟩
set_option maxHeartbeats 400000 in
theorem idle_walk {lv : List Nat} {w : World} {p : Nat} {s : PS} (h : PP lv w p s) : Calls Tryd.prog 7 #[.pointer (some ⟨p, 0, none⟩)] w fun e w' => e = .returned (.bool (decide (s.phase = 0))) ∧ w = w' := by
  obtain ⟨iv, dv, av, h⟩ := h
  obtain ⟨k0, _⟩ := cells13 h.blk
  go_enter Tryd.func7, Tryd.ntmps7
  go_wp2
  go_ret
  exact ⟨by first | rfl | (congr 2; rw [Bool.eq_iff_iff]; simp), rfl⟩
end Go.Proofs.YtnnhaenmoifplaaDoor
