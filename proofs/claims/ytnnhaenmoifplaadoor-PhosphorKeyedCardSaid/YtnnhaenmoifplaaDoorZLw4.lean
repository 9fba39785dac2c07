/-
  Laws over any program that the walks of this seat use: a literal built whole, a row stored whole, as facts on an abstract world.
  Laws over any program: what was there ahead of a call, read behind it.
  What a walk is told of a slice of integers that came in.
  Laws over any program: one element more in a row of the call's own.
-/
import Derived.Deep.AppendLies
import Derived.Deep.Light
import Derived.Deep.RegionLaw
import Derived.Lib.Hide
import Derived.WalkKit
import Derived.WalkLawsBesides
import Derived.WalkSpells
namespace Go.Proofs.YtnnhaenmoifplaaDoor
set_option linter.unusedSimpArgs false
set_option linter.unusedVariables false
open Go.RowKit
section
variable {P : Program} {ops : Array Oper} {rest : List Oper} {o : Oper} {a : Act} {w : World} {Q : Exit → Act → World → Prop}

/-- A literal: the cells said by the caller. -/
theorem wpList_build_to (hg : o.guard = none) (t : TypeId) (parts : Array (Nat × Operand)) (ho : o.op = .build t parts) (cells : Array Value)
    (hf : P.built t (parts.map fun (i, x) => (i, a.eval x)).toList = some cells)
    (h : wpList P ops Q rest (a.put o.dst (.agg cells)) w) : wpList P ops Q (o :: rest) a w :=
  wpList_build hg t parts ho (by rw [hf]; rfl) (by rw [hf]; exact h)

/-- A whole row is stored into a block of its own size: the world behind it as a variable. -/
theorem wpList_store_abs (hgd : o.guard = none) (ty : TypeId) (x y : Operand) (ho : o.op = .store ty x y) (g : Nat) (cells : Array Value)
    (hx : a.eval x = .pointer (some ⟨g, 0, none⟩)) (hy : a.eval y = .agg cells) (t : TypeId) (old : Array Value) (hg : w.heap[g]? = some (.cells old t (0, 0)))
    (hi : (P.info? ty).map (·.size) = some cells.size) (hold : old.size = cells.size) (h1 : cells.all (·.oneCell') = true)
    (h : ∀ w', w'.heap[g]? = some (.cells cells t (0, 0)) → Below g w w' → w'.heap.size = w.heap.size → wpList P ops Q rest (a.put o.dst undef) w') : wpList P ops Q (o :: rest) a w :=
  wpList_plain hgd fun _ hK => wp_store_row ty x y ho g cells hx hy t old hg hi hold h1
    (hK _ _ (h _ (setRow_heap w g old cells t _ hg) ⟨rfl, rfl, rfl, by simp [World.setRow], fun k hk => setRow_other w g k cells (by omega)⟩ (by simp)))

theorem cell_of_row {w : World} {g : Nat} {cs : Array Value} {t : TypeId} {fr : Nat × Nat} (h : w.heap[g]? = some (.cells cs t fr)) (i : Nat) (v : Value) (hv : cs[i]? = some v) : w.cell? ⟨g, i, none⟩ = some v := by
  simp [World.cell?, h, hv]
end

theorem bytes_inj (a b : ByteArray) : a.toList = b.toList ↔ a = b := by
  constructor
  · intro h
    rw [ByteArray.toList_eq, ByteArray.toList_eq] at h
    cases a; cases b; simp at h; simpa using h
  · rintro rfl; rfl

/-- All that was there is there as it was; there may be new blocks. -/
def Gr (w w' : World) : Prop := Below w.heap.size w w'
theorem Gr.refl (w : World) : Gr w w := Below.refl _ _
theorem Gr.trans {a b c : World} (h : Gr a b) (k : Gr b c) : Gr a c := Below.trans h (Below.mono k h.size)
theorem Gr.alloc {a w : World} (h : Gr a w) (o : Obj) : Gr a (w.alloc o) := Below.alloc h h.size o
theorem Gr.drew {a w : World} (h : Gr a w) : Gr a w.drew := Below.drew h
theorem Gr.drewN {a w : World} (h : Gr a w) (n : Nat) : Gr a (w.drewN n) := h.trans ⟨rfl, rfl, rfl, Nat.le_refl _, fun _ _ => rfl⟩
theorem Gr.setCell {a w : World} (h : Gr a w) {p : Addr} (hp : a.heap.size ≤ p.block) (u : Value) : Gr a (w.setCell p u) := Below.setCell h hp u
theorem Gr.of {a w : World} {B : Nat} (hB : a.heap.size ≤ B) (h : Below B a w) : Gr a w := Below.mono h hB
/-- A step that leaves all below a block of the call's own as it was. -/
theorem Gr.step {a w w' : World} {B : Nat} (h : Gr a w) (hB : a.heap.size ≤ B) (k : Below B w w') : Gr a w' := Below.trans h (Below.mono k hB)
theorem Gr.blk {a b : World} (h : Gr a b) {k : Nat} {o : Obj} (hk : a.heap[k]? = some o) : b.heap[k]? = some o := by
  have hlt : k < a.heap.size := (Array.getElem?_eq_some_iff.1 hk).1
  rw [h.block k hlt]; exact hk
/-- A block laid ahead of a call is there behind it. -/
theorem Gr.keep {w w1 : World} {o : Obj} (h : Gr (w.alloc o) w1) : w1.heap[w.heap.size]? = some o := h.blk (heap_alloc_new w o)
theorem Gr.lt {w w1 : World} {o : Obj} (h : Gr (w.alloc o) w1) : w.heap.size < w1.heap.size := by
  have := h.size; simp at this; omega
end Go.Proofs.YtnnhaenmoifplaaDoor

namespace Go.Proofs.YtnnhaenmoifplaaDoor
set_option linter.unusedSimpArgs false
set_option linter.unusedVariables false
open Go.RowKit

theorem Gr.lt1 {W w1 : World} (hb : Gr W w1) (k : Nat) (h : k < W.heap.size) : k < w1.heap.size := Nat.lt_of_lt_of_le h hb.size
theorem cells1 {w : World} {g : Nat} {v0 : Value} {t : TypeId} (h : w.heap[g]? = some (.cells #[v0] t (0, 0))) :
    w.cell? ⟨g, 0, none⟩ = some v0 ∧ ∀ i, w.frozen? ⟨g, i, none⟩ = false := by
  refine ⟨?_, ?_⟩
  all_goals first | (simp [World.cell?, h]; done) | (intro i; simp [World.frozen?, h])

theorem cells5 {w : World} {g : Nat} {v0 v1 v2 v3 v4 : Value} {t : TypeId} (h : w.heap[g]? = some (.cells #[v0, v1, v2, v3, v4] t (0, 0))) :
    w.cell? ⟨g, 0, none⟩ = some v0 ∧ w.cell? ⟨g, 1, none⟩ = some v1 ∧ w.cell? ⟨g, 2, none⟩ = some v2 ∧ w.cell? ⟨g, 3, none⟩ = some v3 ∧ w.cell? ⟨g, 4, none⟩ = some v4 ∧ ∀ i, w.frozen? ⟨g, i, none⟩ = false := by
  refine ⟨?_, ?_, ?_, ?_, ?_, ?_⟩
  all_goals first | (simp [World.cell?, h]; done) | (intro i; simp [World.frozen?, h])

theorem cells6 {w : World} {g : Nat} {v0 v1 v2 v3 v4 v5 : Value} {t : TypeId} (h : w.heap[g]? = some (.cells #[v0, v1, v2, v3, v4, v5] t (0, 0))) :
    w.cell? ⟨g, 0, none⟩ = some v0 ∧ w.cell? ⟨g, 1, none⟩ = some v1 ∧ w.cell? ⟨g, 2, none⟩ = some v2 ∧ w.cell? ⟨g, 3, none⟩ = some v3 ∧ w.cell? ⟨g, 4, none⟩ = some v4 ∧ w.cell? ⟨g, 5, none⟩ = some v5 ∧ ∀ i, w.frozen? ⟨g, i, none⟩ = false := by
  refine ⟨?_, ?_, ?_, ?_, ?_, ?_, ?_⟩
  all_goals first | (simp [World.cell?, h]; done) | (intro i; simp [World.frozen?, h])

/-- A block known whole, behind a store of one cell into it, and into another. -/
theorem blk_set {w : World} {g : Nat} {cs : Array Value} {t : TypeId} (h : w.heap[g]? = some (.cells cs t (0, 0))) (i : Nat) (u : Value) : (w.setCell ⟨g, i, none⟩ u).heap[g]? = some (.cells (cs.setIfInBounds i u) t (0, 0)) := by
  rw [setCell_eq_setRow w g i cs t (0, 0) u h]
  exact setRow_heap w g cs _ t _ h
theorem blk_far {w : World} {g : Nat} {o : Obj} (h : w.heap[g]? = some o) {p : Addr} (hp : g ≠ p.block) (u : Value) : (w.setCell p u).heap[g]? = some o := by
  rw [Below.heap_setCell w p u g hp]; exact h
end Go.Proofs.YtnnhaenmoifplaaDoor

namespace Go.Proofs.YtnnhaenmoifplaaDoor
set_option linter.unusedSimpArgs false
set_option linter.unusedVariables false
open Go.RowKit

theorem lt_of_cell {w : World} {x : Addr} {v : Value} (h : w.cell? x = some v) : x.block < w.heap.size := by
  rcases Nat.lt_or_ge x.block w.heap.size with h' | h'
  · exact h'
  · simp [World.cell?, Array.getElem?_eq_none h'] at h
/-- A cell that was there is there as it was. -/
theorem Gr.cellAt {w w1 : World} (h : Gr w w1) {x : Addr} {v : Value} (hx : w.cell? x = some v) : w1.cell? x = some v := by
  rw [Below.cell h (lt_of_cell hx)]; exact hx
end Go.Proofs.YtnnhaenmoifplaaDoor

namespace Go.Proofs.YtnnhaenmoifplaaDoor
set_option linter.unusedSimpArgs false
set_option linter.unusedVariables false
open Go.RowKit

theorem cell_alloc1 (w : World) (c : Value) (t : TypeId) : (w.alloc (.cells #[c] t)).cell? ⟨w.heap.size, 0, none⟩ = some c := by simp
/-- A row has grown to V, that lies in block g. -/
structure Grew (w w1 : World) (old V : Value) (g : Nat) : Prop where
  grown : w.grownBy w1 old.ownBlock
  at_ : old.ownBlock = some g ∨ g = w.heap.size
  lt : g < w1.heap.size
  own : V.ownBlock = some g

section
variable {P : Program} {ops : Array Oper} {rest : List Oper} {u : Oper} {a : Act} {w : World} {Q : Exit → Act → World → Prop}

/-- One element of one cell is appended. -/
theorem wpList_push1 (hgd : u.guard = none) (x y : Operand) (t : TypeId) (hu : u.op = .call { callee := .builtin .append, args := #[x, y], argTypes := #[t, t] })
    (base : Nat) (e : TypeId) (z : Value) (bytes : Nat) (ht : P.underlying t = some (.slice e)) (hinfo : (P.info? e).map (fun i => (i.zero, i.size, i.bytes)) = some (some z, 1, bytes)) (hzs : z.cells.size = 1) (hby : bytes ≤ 1000)
    (v : Value) (n : Nat) (xs : List Value) (c : Value) (hown : w.ownsRow base e 1 v n xs) (b : Nat)
    (hx : a.eval x = v) (hy : a.eval y = .slice (some ⟨b, 0, none⟩) 1 1) (hb : w.cell? ⟨b, 0, none⟩ = some c) (hc : c.oneCell' = true) (hn : n ≤ 100000000) (hbase : base ≤ w.heap.size)
    (K : ∀ g cap w1, Grew w w1 v (.slice (some ⟨g, 0, none⟩) (n + 1) cap) g → w1.ownsRow base e 1 (.slice (some ⟨g, 0, none⟩) (n + 1) cap) (n + 1) (xs ++ [c]) →
      wpList P ops Q rest (a.put u.dst (.slice (some ⟨g, 0, none⟩) (n + 1) cap)) w1) : wpList P ops Q (u :: rest) a w := by
  obtain ⟨i0, hi0, hz0, hz1, hz2⟩ := info_parts hinfo
  refine wpList_append_lies _ hgd x y t hu base e i0 _ 1 bytes ht hi0 hz0 hz1 hz2 hzs (by omega) _ _ _ hx hown ⟨b, 0, none⟩ 1 1 [c] hy rfl ?_ ?_ (by omega) ?_ ?_ hbase _ rfl ?_
  · intro j v hv
    have hj : j = 0 := by rcases j with _ | j <;> simp at hv <;> rfl
    subst hj
    simp at hv; subst hv
    simpa [Addr.add] using hb
  · intro v hv; simp at hv; subst hv; exact hc
  · simp only [maxLen]; omega
  · have : (n + 1) * bytes ≤ (n + 1) * 1000 := Nat.mul_le_mul_left _ hby
    omega
  · intro g cap w1 hown hgr hat hlt
    exact K g cap w1 ⟨hgr, hat, hlt, rfl⟩ hown

theorem step_pushN {K : Act → World → Prop} {E : Prop} (hgd : u.guard = none) (x y : Operand) (t : TypeId) (hu : u.op = .call { callee := .builtin .append, args := #[x, y], argTypes := #[t, t] })
    (base : Nat) (e : TypeId) (z : Value) (size bytes : Nat) (ht : P.underlying t = some (.slice e)) (hinfo : (P.info? e).map (fun i => (i.zero, i.size, i.bytes)) = some (some z, size, bytes)) (hzs : z.cells.size = size) (hsz : 0 < size) (hby : bytes ≤ 1000)
    (v : Value) (n : Nat) (xs : List Value) (cs : List Value) (hown : w.ownsRow base e size v n xs) (b : Nat) {e' : TypeId}
    (hx : a.eval x = v) (hy : a.eval y = .slice (some ⟨b, 0, none⟩) 1 1) (hb : w.heap[b]? = some (.cells cs.toArray e' (0, 0))) (hcs : cs.length = size) (hc : ∀ c ∈ cs, c.oneCell' = true) (hn : n ≤ 100000000) (hbase : base ≤ w.heap.size)
    (H : ∀ g cap w1, Grew w w1 v (.slice (some ⟨g, 0, none⟩) (n + 1) cap) g → w1.ownsRow base e size (.slice (some ⟨g, 0, none⟩) (n + 1) cap) (n + 1) (xs ++ cs) →
      K (a.put u.dst (.slice (some ⟨g, 0, none⟩) (n + 1) cap)) w1) : if Region.wanted u (yielded ops a.tmps) = true then Oper.wp P u a w K Q else E := by
  obtain ⟨i0, hi0, hz0, hz1, hz2⟩ := info_parts hinfo
  refine step_append_lies _ hgd x y t hu base e i0 _ size bytes ht hi0 hz0 hz1 hz2 hzs hsz _ _ _ hx hown ⟨b, 0, none⟩ 1 1 cs hy (by omega) ?_ hc (by omega) ?_ ?_ hbase _ rfl ?_
  · intro j v hv
    have hc := cell_of_row hb j v (by simpa using hv)
    have e : (⟨b, 0, none⟩ : Addr).add j = ⟨b, j, none⟩ := by rcases j with _ | j <;> simp [Addr.add]
    rw [e]; exact hc
  · simp only [maxLen]; omega
  · have : (n + 1) * bytes ≤ (n + 1) * 1000 := Nat.mul_le_mul_left _ hby
    omega
  · intro g cap w1 hown hgr hat hlt
    exact H g cap w1 ⟨hgr, hat, hlt, rfl⟩ hown
end

theorem ownsRow_blk {w : World} {B e size n : Nat} {v : Value} {xs : List Value} (h : w.ownsRow B e size v n xs) {k : Nat} (hk : v.ownBlock = some k) : k < w.heap.size := by
  rcases h.2 with ⟨hv, _⟩ | ⟨g, cap, cur, hv, _, hh, _⟩
  · rw [hv] at hk; cases hk
  · rw [hv] at hk
    simp only [Value.ownBlock, Option.some.injEq] at hk
    subst hk
    exact (Array.getElem?_eq_some_iff.1 hh).1
theorem ownsRow_base {w : World} {B e size n : Nat} {v : Value} {xs : List Value} (h : w.ownsRow B e size v n xs) {k : Nat} (hk : v.ownBlock = some k) : B ≤ k := by
  rcases h.2 with ⟨hv, _⟩ | ⟨g, cap, cur, hv, hB, hh, _⟩
  · rw [hv] at hk; cases hk
  · rw [hv] at hk
    simp only [Value.ownBlock, Option.some.injEq] at hk
    subst hk
    exact hB
/-- A row whose block has not changed. -/
theorem ownsRow_same {w w' : World} {B e size n : Nat} {v : Value} {xs : List Value} (h : w.ownsRow B e size v n xs) (hs : ∀ k, v.ownBlock = some k → w'.heap[k]? = w.heap[k]?) : w'.ownsRow B e size v n xs := by
  refine ⟨h.1, ?_⟩
  rcases h.2 with h2 | ⟨g, cap, cur, hv, hg, hh, r⟩
  · exact .inl h2
  · exact .inr ⟨g, cap, cur, hv, hg, by rw [hs g (by rw [hv]; rfl)]; exact hh, r⟩
theorem ownsRow_gr {w w' : World} {B e size n : Nat} {v : Value} {xs : List Value} (h : w.ownsRow B e size v n xs) (hg : Gr w w') : w'.ownsRow B e size v n xs :=
  ownsRow_same h fun k hk => hg.block k (ownsRow_blk h hk)
theorem row_form {w : World} {B e size n : Nat} {v : Value} {xs : List Value} (h : w.ownsRow B e size v n xs) : ∃ a cap, v = .slice a n cap := by
  rcases h.2 with ⟨rfl, rfl⟩ | ⟨g, cap, cur, rfl, _⟩
  · exact ⟨_, _, rfl⟩
  · exact ⟨_, _, rfl⟩
/-- What a row of the call's own that has grown leaves of what was there ahead of the call. -/
theorem Grew.gr {w0 w w1 : World} {old V : Value} {g : Nat} (h : Grew w w1 old V g) (h0 : Gr w0 w) (hb : ∀ k, old.ownBlock = some k → w0.heap.size ≤ k) : Gr w0 w1 :=
  Below.grown h0 h.grown h0.size (fun k hk => hb k hk)
theorem Grew.new {w w1 : World} {old V : Value} {g : Nat} (h : Grew w w1 old V g) {k : Nat} (hk : k < w.heap.size) (hne : old.ownBlock ≠ some k) : w1.heap[k]? = w.heap[k]? := h.grown.block k hk fun e => hne e.symm
theorem Grew.ne {w w1 : World} {old V : Value} {g : Nat} (h : Grew w w1 old V g) {k : Nat} (hk : k < w.heap.size) (hne : old.ownBlock ≠ some k) : k ≠ g := by
  rintro rfl
  rcases h.at_ with e | e
  · exact hne e
  · omega

/-- A row of one-cell elements, with or without room behind it. -/
def HasRow (w : World) (e : TypeId) (v : Value) (n : Nat) (xs : List Value) : Prop :=
  xs.length = n ∧ ((v = .slice none 0 0 ∧ n = 0) ∨ ∃ g cap cur, v = .slice (some ⟨g, 0, none⟩) n cap ∧ (∃ fr, w.heap[g]? = some (.cells cur e fr)) ∧ n ≤ cap ∧ cap ≤ cur.size ∧ cur.toList.take n = xs)
theorem HasRow.of_own {w : World} {B e n : Nat} {v : Value} {xs : List Value} (h : w.ownsRow B e 1 v n xs) : HasRow w e v n xs := by
  refine ⟨by simpa using h.1, ?_⟩
  rcases h.2 with h2 | ⟨g, cap, cur, hv, _, hh, hn, _, hs, ht⟩
  · exact .inl h2
  · exact .inr ⟨g, cap, cur, hv, ⟨_, hh⟩, hn, by omega, by simpa using ht⟩
theorem HasRow.nil (w : World) (e : TypeId) : HasRow w e (.slice none 0 0) 0 [] := ⟨rfl, .inl ⟨rfl, rfl⟩⟩
theorem HasRow.blk {w : World} {e n : Nat} {v : Value} {xs : List Value} (h : HasRow w e v n xs) {k : Nat} (hk : v.ownBlock = some k) : k < w.heap.size := by
  rcases h.2 with ⟨rfl, _⟩ | ⟨g, cap, cur, rfl, ⟨fr, hh⟩, _⟩
  · cases hk
  · simp only [Value.ownBlock, Option.some.injEq] at hk
    subst hk
    exact (Array.getElem?_eq_some_iff.1 hh).1
theorem HasRow.same {w w' : World} {e n : Nat} {v : Value} {xs : List Value} (h : HasRow w e v n xs) (hs : ∀ k, v.ownBlock = some k → w'.heap[k]? = w.heap[k]?) : HasRow w' e v n xs := by
  refine ⟨h.1, ?_⟩
  rcases h.2 with h2 | ⟨g, cap, cur, hv, hh, r⟩
  · exact .inl h2
  · exact .inr ⟨g, cap, cur, hv, by rw [hs g (by rw [hv]; rfl)]; exact hh, r⟩
theorem HasRow.gr {w w' : World} {e n : Nat} {v : Value} {xs : List Value} (h : HasRow w e v n xs) (hg : Gr w w') : HasRow w' e v n xs := h.same fun k hk => hg.block k (h.blk hk)
theorem HasRow.form {w : World} {e n : Nat} {v : Value} {xs : List Value} (h : HasRow w e v n xs) : ∃ a cap, v = .slice a n cap := by
  rcases h.2 with ⟨rfl, rfl⟩ | ⟨g, cap, cur, rfl, _⟩
  · exact ⟨_, _, rfl⟩
  · exact ⟨_, _, rfl⟩
theorem HasRow.cells {w : World} {e n g : Nat} {v : Value} {xs : List Value} (h : HasRow w e v n xs) (hg : v.ownBlock = some g) (j : Nat) (u : Value) (hj : xs[j]? = some u) : w.cell? ⟨g, j, none⟩ = some u := by
  rcases h.2 with ⟨rfl, _⟩ | ⟨g', cap, cur, rfl, hh, hn, hc, ht⟩
  · cases hg
  · simp only [Value.ownBlock, Option.some.injEq] at hg
    subst hg
    obtain ⟨fr, hh⟩ := hh
    refine cell_of_row hh j u ?_
    rw [← ht, List.getElem?_take] at hj
    split at hj
    · simpa using hj
    · cases hj
end Go.Proofs.YtnnhaenmoifplaaDoor
