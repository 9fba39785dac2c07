/-
  The law that a parser keeps no memory of what it is fed, walked.
-/
import Derived.Test.YtgbmjlajheeciaaPdO
namespace Go.Proofs.Ytgbmjlajheeciaa
set_option linter.unusedSimpArgs false
set_option linter.unusedVariables false
open Go.RowKit

theorem emit_data {s : PS} (h : s.data.length ≤ 4096) : ∀ t ∈ emit s, t.data.length ≤ 4096 := by
  intro t ht
  unfold emit at ht
  split at ht
  · simp at ht
  · simp at ht; subst ht; exact h
theorem takeM1_data {s : PS} (h : s.data.length ≤ 4096) (c : Int) : ∀ t ∈ (takeM1 s c).2, t.data.length ≤ 4096 := by
  intro t ht
  have he : ∀ d, t ∈ (escapedM s d).2 → t.data.length ≤ 4096 := by
    intro d hd
    simp only [escapedM] at hd
    repeat' split at hd
    all_goals first | (simp at hd; done) | exact emit_data (by simpa using h) _ hd
  have hh : ∀ d, t ∈ (headerM s d).2 → t.data.length ≤ 4096 := by
    intro d hd
    simp only [headerM] at hd
    repeat' split at hd
    all_goals first | (simp at hd; done) | exact emit_data (by simpa using h) _ hd
  have hs : t ∈ (stepM s c).2 → t.data.length ≤ 4096 := by
    intro hd
    simp only [stepM] at hd
    repeat' split at hd
    all_goals first | (simp at hd; done) | exact he _ hd | exact hh _ hd | (simp [printT] at hd; subst hd; simp)
  simp only [takeM1] at ht
  repeat' split at ht
  all_goals first | (simp at ht; done) | exact hs ht | exact emit_data h _ ht | (simp [ctrlT] at ht; subst ht; simp)
theorem takeM_data {s : PS} (h : s.data.length ≤ 4096) (c : Int) : ∀ t ∈ (takeM s c).2, t.data.length ≤ 4096 := by
  intro t ht
  simp only [takeM] at ht
  repeat' split at ht
  all_goals first | exact emit_data h _ ht | exact takeM1_data (by simp [PS.begin_]) _ _ ht | exact takeM1_data h _ _ ht
theorem runM_data (l : List Int) : ∀ s : PS, s.ok → (∀ c ∈ l, 0 ≤ c ∧ c < 256) → ∀ t ∈ (runM s l).2, t.data.length ≤ 4096 := by
  induction l with
  | nil => intro s _ _ t ht; simp [runM] at ht
  | cons c l ih =>
    intro s hs hl t ht
    simp only [runM, List.mem_append] at ht
    rcases ht with ht | ht
    · exact takeM_data hs.data _ _ ht
    · exact ih _ (ok_take hs c (hl c (by simp))) (fun x hx => hl x (by simp [hx])) _ ht
theorem feedM_data {s : PS} (h : s.ok) (l : List Int) (hl : ∀ c ∈ l, 0 ≤ c ∧ c < 256) : ∀ t ∈ (feedM s l).2, t.data.length ≤ 4096 := runM_data _ _ h (plainL_range l hl)
/-- Numbers, whichever, in a row. -/
def SomeI (w : World) (v : Value) (n : Nat) : Prop := ∃ l, l.length = n ∧ HasRow w 3 v n (icells l)
def SomeB (w : World) (v : Value) (n : Nat) : Prop := ∃ l, l.length = n ∧ HasRow w 5 v n (bcells l)
theorem SomeI.gr {w w' : World} {v : Value} {n : Nat} (h : SomeI w v n) (hg : Gr w w') : SomeI w' v n := by
  obtain ⟨l, h1, h2⟩ := h; exact ⟨l, h1, h2.gr hg⟩
theorem SomeB.gr {w w' : World} {v : Value} {n : Nat} (h : SomeB w v n) (hg : Gr w w') : SomeB w' v n := by
  obtain ⟨l, h1, h2⟩ := h; exact ⟨l, h1, h2.gr hg⟩
theorem take_set_list {α : Type} (l : List α) (n j : Nat) (x : α) : (l.set j x).take n = (l.take n).set j x := by
  apply List.ext_getElem?
  intro i
  simp only [List.getElem?_take, List.getElem?_set, List.length_take]
  by_cases h1 : i < n
  · by_cases h2 : j = i
    · subst h2
      by_cases h3 : j < l.length
      · simp [h1, h3]; omega
      · simp [h1, h3]; omega
    · simp [h1, h2]
  · simp [h1]
    intro h2; subst h2; omega
/-- A cell of a row of numbers is stored anew, in this block or another. -/
theorem SomeI.set {w : World} {v : Value} {n g j : Nat} {x : Int} (h : SomeI w v n) : SomeI (w.setCell ⟨g, j, none⟩ (.int .i64 x)) v n := by
  obtain ⟨l, hl, h1, h2⟩ := h
  rcases h2 with h2 | ⟨g', cap, cur, hv, hh, hn, hc, ht⟩
  · exact ⟨l, hl, h1, .inl h2⟩
  · by_cases hg : g' = g
    · subst hg
      refine ⟨l.set j x, by simpa using hl, by simp [icells, hl], .inr ⟨g', cap, cur.setIfInBounds j (.int .i64 x), hv, blk_set hh j _, hn, by simpa using hc, ?_⟩⟩
      rw [Array.toList_setIfInBounds, take_set_list, ht]
      simp [icells, List.map_set]
    · exact ⟨l, hl, h1, .inr ⟨g', cap, cur, hv, by rw [Below.heap_setCell _ _ _ _ (by simpa using hg)]; exact hh, hn, hc, ht⟩⟩
theorem SomeB.set {w : World} {v : Value} {n g j : Nat} {x : Int} (h : SomeB w v n) : SomeB (w.setCell ⟨g, j, none⟩ (.int .u8 x)) v n := by
  obtain ⟨l, hl, h1, h2⟩ := h
  rcases h2 with h2 | ⟨g', cap, cur, hv, hh, hn, hc, ht⟩
  · exact ⟨l, hl, h1, .inl h2⟩
  · by_cases hg : g' = g
    · subst hg
      refine ⟨l.set j x, by simpa using hl, by simp [bcells, hl], .inr ⟨g', cap, cur.setIfInBounds j (.int .u8 x), hv, blk_set hh j _, hn, by simpa using hc, ?_⟩⟩
      rw [Array.toList_setIfInBounds, take_set_list, ht]
      simp [bcells, List.map_set]
    · exact ⟨l, hl, h1, .inr ⟨g', cap, cur, hv, by rw [Below.heap_setCell _ _ _ _ (by simpa using hg)]; exact hh, hn, hc, ht⟩⟩
/-- .. of the other kind: that is another block. -/
theorem SomeI.far {w : World} {v : Value} {n g j : Nat} {u : Value} {C : Array Value} {e : TypeId} (h : SomeI w v n) (hg : w.heap[g]? = some (.cells C e (0, 0))) (he : e ≠ 3) : SomeI (w.setCell ⟨g, j, none⟩ u) v n := by
  obtain ⟨l, hl, h1⟩ := h
  exact ⟨l, hl, h1.same fun k hk => Below.heap_setCell _ _ _ _ (fun e' => hasRow_ne h1 hg (fun x => he x.symm) (by have e2 : k = g := e'; rw [← e2]; exact hk))⟩
theorem SomeB.far {w : World} {v : Value} {n g j : Nat} {u : Value} {C : Array Value} {e : TypeId} (h : SomeB w v n) (hg : w.heap[g]? = some (.cells C e (0, 0))) (he : e ≠ 5) : SomeB (w.setCell ⟨g, j, none⟩ u) v n := by
  obtain ⟨l, hl, h1⟩ := h
  exact ⟨l, hl, h1.same fun k hk => Below.heap_setCell _ _ _ _ (fun e' => hasRow_ne h1 hg (fun x => he x.symm) (by have e2 : k = g := e'; rw [← e2]; exact hk))⟩
theorem SomeI.at_ {w : World} {a : Option Addr} {n c k : Nat} (h : SomeI w (.slice a n c) n) (hk : k < n) : ∃ g C x, a = some ⟨g, 0, none⟩ ∧ w.heap[g]? = some (.cells C 3 (0, 0)) ∧ w.cell? ⟨g, k, none⟩ = some (.int .i64 x) := by
  obtain ⟨l, hl, h⟩ := h
  obtain ⟨g, cap, u, hv, hu, hc⟩ := h.at_ hk
  injection hv with hv
  have := icells_at hu
  subst this
  rcases h.2 with ⟨h2, _⟩ | ⟨g', cap', cur, hv', hh, _⟩
  · injection h2 with h2; rw [hv] at h2; cases h2
  · injection hv' with hv'
    rw [hv] at hv'; injection hv' with hv'; injection hv' with hv'; subst hv'
    exact ⟨g, cur, _, hv, hh, hc⟩
theorem bcells_at {l : List Int} {k : Nat} {u : Value} (h : (bcells l)[k]? = some u) : u = .int .u8 (l.getD k 0) := by
  simp only [bcells, List.getElem?_map] at h
  rcases hx : l[k]? with _ | x
  · rw [hx] at h; cases h
  · rw [hx] at h; simp at h; simp [List.getD, hx, h]
theorem SomeB.at_ {w : World} {a : Option Addr} {n c k : Nat} (h : SomeB w (.slice a n c) n) (hk : k < n) : ∃ g C x, a = some ⟨g, 0, none⟩ ∧ w.heap[g]? = some (.cells C 5 (0, 0)) ∧ w.cell? ⟨g, k, none⟩ = some (.int .u8 x) := by
  obtain ⟨l, hl, h⟩ := h
  obtain ⟨g, cap, u, hv, hu, hc⟩ := h.at_ hk
  injection hv with hv
  have := bcells_at hu
  subst this
  rcases h.2 with ⟨h2, _⟩ | ⟨g', cap', cur, hv', hh, _⟩
  · injection h2 with h2; rw [hv] at h2; cases h2
  · injection hv' with hv'
    rw [hv] at hv'; injection hv' with hv'; injection hv' with hv'; subst hv'
    exact ⟨g, cur, _, hv, hh, hc⟩
theorem Toks.outs [Bs] {lv : List Nat} {w : World} {ts : List Tok} {ov : Value} {qs : List (Value × Value)} (h : Toks lv w ts ov qs) : ∀ (i : Nat) (q : Value × Value), qs[i]? = some q → (∀ k, q.1.ownBlock = some k → Bs.b ≤ k ∧ k ∉ lv) ∧ ∀ k, q.2.ownBlock = some k → Bs.b ≤ k ∧ k ∉ lv := by
  intro i q hq
  have hi : i < ts.length := by
    have := (List.getElem?_eq_some_iff.1 hq).1
    have := h.len; omega
  have := h.toks i _ q (List.getElem?_eq_getElem hi) hq
  exact ⟨fun k hk => ⟨this.pNew k hk, this.pOut k hk⟩, fun k hk => ⟨this.dNew k hk, this.dOut k hk⟩⟩

/-- What stays while the tokens' memory is written over. -/
structure KeepAt (w : World) (B : Nat) (lvp : List Nat) (p q : Nat) (s : PS) (ts : List Tok) (v : Value) (qs : List (Value × Value)) (wr : World) : Prop where
  gr : Gr w wr
  bw : w.heap.size ≤ B
  pp : PP lvp wr p s
  pq : PP [q] wr q PS.init
  row : wr.ownsRow 0 31 6 v ts.length (tsCells ts qs)
  len : qs.length = ts.length
  any : ∀ (i : Nat) (t : Tok) (x : Value × Value), ts[i]? = some t → qs[i]? = some x → SomeI wr x.1 t.params.length ∧ SomeB wr x.2 t.data.length
  own : ∀ (i : Nat) (x : Value × Value), qs[i]? = some x → (∀ k, x.1.ownBlock = some k → B ≤ k ∧ k ∉ lvp) ∧ ∀ k, x.2.ownBlock = some k → B ≤ k ∧ k ∉ lvp
variable {w : World} {B : Nat} {lvp : List Nat} {p q : Nat} {s : PS} {ts : List Tok} {v : Value} {qs : List (Value × Value)} {wr wr' : World}
theorem KeepAt.grow (h : KeepAt w B lvp p q s ts v qs wr) (hg : Gr wr wr') : KeepAt w B lvp p q s ts v qs wr' :=
  ⟨h.gr.trans hg, h.bw, h.pp.gr hg, h.pq.gr hg, ownsRow_gr h.row hg, h.len, fun i t x ht hx => ⟨(h.any i t x ht hx).1.gr hg, (h.any i t x ht hx).2.gr hg⟩, h.own⟩
theorem stp_cell (w : World) (g j : Nat) (u : Value) : Stp [g] w [g] (w.setCell ⟨g, j, none⟩ u) := ⟨Upd.of_setCell w g j u, fun _ h => .inl h⟩
theorem KeepAt.setI (h : KeepAt w B lvp p q s ts v qs wr) {g : Nat} {C : Array Value} (hg : wr.heap[g]? = some (.cells C 3 (0, 0))) (hB : B ≤ g) (hl : g ∉ lvp) (j : Nat) (x : Int) : KeepAt w B lvp p q s ts v qs (wr.setCell ⟨g, j, none⟩ (.int .i64 x)) := by
  obtain ⟨_, _, _, hq, _⟩ := h.pq.fields
  have hqg : q ≠ g := by rintro rfl; rw [hg] at hq; simp at hq
  refine ⟨h.gr.setCell (Nat.le_trans h.bw hB) _, h.bw, h.pp.far (stp_cell _ _ _ _) (fun k hk hm => by simp at hm; subst hm; exact hl hk), h.pq.far (stp_cell _ _ _ _) (fun k hk hm => by simp at hk hm; omega), ?_, h.len, fun i t y ht hy => ⟨(h.any i t y ht hy).1.set, (h.any i t y ht hy).2.far hg (by decide)⟩, h.own⟩
  exact ownsRow_same h.row fun k hk => Below.heap_setCell _ _ _ _ (fun e' => row_ne h.row hg (by decide) (by have e2 : k = g := e'; rw [← e2]; exact hk))
theorem KeepAt.setB (h : KeepAt w B lvp p q s ts v qs wr) {g : Nat} {C : Array Value} (hg : wr.heap[g]? = some (.cells C 5 (0, 0))) (hB : B ≤ g) (hl : g ∉ lvp) (j : Nat) (x : Int) : KeepAt w B lvp p q s ts v qs (wr.setCell ⟨g, j, none⟩ (.int .u8 x)) := by
  obtain ⟨_, _, _, hq, _⟩ := h.pq.fields
  have hqg : q ≠ g := by rintro rfl; rw [hg] at hq; simp at hq
  refine ⟨h.gr.setCell (Nat.le_trans h.bw hB) _, h.bw, h.pp.far (stp_cell _ _ _ _) (fun k hk hm => by simp at hm; subst hm; exact hl hk), h.pq.far (stp_cell _ _ _ _) (fun k hk hm => by simp at hk hm; omega), ?_, h.len, fun i t y ht hy => ⟨(h.any i t y ht hy).1.far hg (by decide), (h.any i t y ht hy).2.set⟩, h.own⟩
  exact ownsRow_same h.row fun k hk => Below.heap_setCell _ _ _ _ (fun e' => row_ne h.row hg (by decide) (by have e2 : k = g := e'; rw [← e2]; exact hk))
theorem frozen_of {w : World} {g : Nat} {C : Array Value} {e : TypeId} (h : w.heap[g]? = some (.cells C e (0, 0))) (i : Nat) : w.frozen? ⟨g, i, none⟩ = false := by simp [World.frozen?, h]
end Go.Proofs.Ytgbmjlajheeciaa
