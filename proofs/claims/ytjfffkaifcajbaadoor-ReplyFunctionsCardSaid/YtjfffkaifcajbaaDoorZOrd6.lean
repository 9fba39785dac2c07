/-
  Laws over any program that the walks of this seat use: a literal built whole, a row stored whole, as facts on an abstract world.
  Laws over any program: what was there ahead of a call, read behind it.
  What a walk is told of a slice of integers that came in.
  Laws over any program: one element more in a row of the call's own.
  A law over any program: a region that draws its order, by what each of its operations leaves, whatever order is drawn.
  From a row's listed variables to the tables that contracts ask for: laws over any program.
  A law over any program: a region that draws its order, by facts that may name the slots of several operations, whatever order is drawn.
  The rule with facts over several slots, where an operation may end what an elder one left.
  The rule with facts over several slots, where edges that bind nothing may point on.
  The rule on regions that draw their order, where edges that bind nothing may point on.
  The rule on regions that draw their order, where operations are guarded and the guards are known.
-/
import Derived.Deep.AppendLies
import Derived.Deep.Light
import Derived.Deep.RegionLaw
import Derived.LaidMore
import Derived.Lib.Hide
import Derived.Lib.LaidTab
import Derived.RegionTactic
import Derived.WalkKit
import Derived.WalkLawsBesides
import Derived.WalkSpells
namespace Go.Proofs.YtjfffkaifcajbaaDoor
set_option linter.unusedSimpArgs false
set_option linter.unusedVariables false
open Go.RowKit
section
variable {P : Program} {ops : Array Oper} {rest : List Oper} {o : Oper} {a : Act} {w : World} {Q : Exit → Act → World → Prop}

/-- A whole row is stored into a block of its own size: the world behind it as a variable. -/
theorem wpList_store_abs (hgd : o.guard = none) (ty : TypeId) (x y : Operand) (ho : o.op = .store ty x y) (g : Nat) (cells : Array Value)
    (hx : a.eval x = .pointer (some ⟨g, 0, none⟩)) (hy : a.eval y = .agg cells) (t : TypeId) (old : Array Value) (hg : w.heap[g]? = some (.cells old t (0, 0)))
    (hi : (P.info? ty).map (·.size) = some cells.size) (hold : old.size = cells.size) (h1 : cells.all (·.oneCell') = true)
    (h : ∀ w', w'.heap[g]? = some (.cells cells t (0, 0)) → Below g w w' → w'.heap.size = w.heap.size → wpList P ops Q rest (a.put o.dst undef) w') : wpList P ops Q (o :: rest) a w :=
  wpList_plain hgd fun _ hK => wp_store_row ty x y ho g cells hx hy t old hg hi hold h1
    (hK _ _ (h _ (setRow_heap w g old cells t _ hg) ⟨rfl, rfl, rfl, by simp [World.setRow], fun k hk => setRow_other w g k cells (by omega)⟩ (by simp)))

theorem cell_of_row {w : World} {g : Nat} {cs : Array Value} {t : TypeId} {fr : Nat × Nat} (h : w.heap[g]? = some (.cells cs t fr)) (i : Nat) (v : Value) (hv : cs[i]? = some v) : w.cell? ⟨g, i, none⟩ = some v := by
  simp [World.cell?, h, hv]
end

theorem bytes_inj (a b : ByteArray) : a.toList = b.toList ↔ a = b := by
  constructor
  · intro h
    rw [ByteArray.toList_eq, ByteArray.toList_eq] at h
    cases a; cases b; simp at h; simpa using h
  · rintro rfl; rfl

/-- All that was there is there as it was; there may be new blocks. -/
def Gr (w w' : World) : Prop := Below w.heap.size w w'
theorem Gr.refl (w : World) : Gr w w := Below.refl _ _
theorem Gr.trans {a b c : World} (h : Gr a b) (k : Gr b c) : Gr a c := Below.trans h (Below.mono k h.size)
theorem Gr.alloc {a w : World} (h : Gr a w) (o : Obj) : Gr a (w.alloc o) := Below.alloc h h.size o
theorem Gr.drew {a w : World} (h : Gr a w) : Gr a w.drew := Below.drew h
theorem Gr.drewN {a w : World} (h : Gr a w) (n : Nat) : Gr a (w.drewN n) := h.trans ⟨rfl, rfl, rfl, Nat.le_refl _, fun _ _ => rfl⟩
theorem Gr.setCell {a w : World} (h : Gr a w) {p : Addr} (hp : a.heap.size ≤ p.block) (u : Value) : Gr a (w.setCell p u) := Below.setCell h hp u
theorem Gr.of {a w : World} {B : Nat} (hB : a.heap.size ≤ B) (h : Below B a w) : Gr a w := Below.mono h hB
/-- A step that leaves all below a block of the call's own as it was. -/
theorem Gr.step {a w w' : World} {B : Nat} (h : Gr a w) (hB : a.heap.size ≤ B) (k : Below B w w') : Gr a w' := Below.trans h (Below.mono k hB)
theorem Gr.blk {a b : World} (h : Gr a b) {k : Nat} {o : Obj} (hk : a.heap[k]? = some o) : b.heap[k]? = some o := by
  have hlt : k < a.heap.size := (Array.getElem?_eq_some_iff.1 hk).1
  rw [h.block k hlt]; exact hk
/-- A block laid ahead of a call is there behind it. -/
theorem Gr.keep {w w1 : World} {o : Obj} (h : Gr (w.alloc o) w1) : w1.heap[w.heap.size]? = some o := h.blk (heap_alloc_new w o)
theorem Gr.lt {w w1 : World} {o : Obj} (h : Gr (w.alloc o) w1) : w.heap.size < w1.heap.size := by
  have := h.size; simp at this; omega
end Go.Proofs.YtjfffkaifcajbaaDoor

namespace Go.Proofs.YtjfffkaifcajbaaDoor
set_option linter.unusedSimpArgs false
set_option linter.unusedVariables false
open Go.RowKit

theorem Gr.lt1 {W w1 : World} (hb : Gr W w1) (k : Nat) (h : k < W.heap.size) : k < w1.heap.size := Nat.lt_of_lt_of_le h hb.size
theorem cells1 {w : World} {g : Nat} {v0 : Value} {t : TypeId} (h : w.heap[g]? = some (.cells #[v0] t (0, 0))) :
    w.cell? ⟨g, 0, none⟩ = some v0 ∧ ∀ i, w.frozen? ⟨g, i, none⟩ = false := by
  refine ⟨?_, ?_⟩
  all_goals first | (simp [World.cell?, h]; done) | (intro i; simp [World.frozen?, h])

theorem cells5 {w : World} {g : Nat} {v0 v1 v2 v3 v4 : Value} {t : TypeId} (h : w.heap[g]? = some (.cells #[v0, v1, v2, v3, v4] t (0, 0))) :
    w.cell? ⟨g, 0, none⟩ = some v0 ∧ w.cell? ⟨g, 1, none⟩ = some v1 ∧ w.cell? ⟨g, 2, none⟩ = some v2 ∧ w.cell? ⟨g, 3, none⟩ = some v3 ∧ w.cell? ⟨g, 4, none⟩ = some v4 ∧ ∀ i, w.frozen? ⟨g, i, none⟩ = false := by
  refine ⟨?_, ?_, ?_, ?_, ?_, ?_⟩
  all_goals first | (simp [World.cell?, h]; done) | (intro i; simp [World.frozen?, h])

theorem cells6 {w : World} {g : Nat} {v0 v1 v2 v3 v4 v5 : Value} {t : TypeId} (h : w.heap[g]? = some (.cells #[v0, v1, v2, v3, v4, v5] t (0, 0))) :
    w.cell? ⟨g, 0, none⟩ = some v0 ∧ w.cell? ⟨g, 1, none⟩ = some v1 ∧ w.cell? ⟨g, 2, none⟩ = some v2 ∧ w.cell? ⟨g, 3, none⟩ = some v3 ∧ w.cell? ⟨g, 4, none⟩ = some v4 ∧ w.cell? ⟨g, 5, none⟩ = some v5 ∧ ∀ i, w.frozen? ⟨g, i, none⟩ = false := by
  refine ⟨?_, ?_, ?_, ?_, ?_, ?_, ?_⟩
  all_goals first | (simp [World.cell?, h]; done) | (intro i; simp [World.frozen?, h])

/-- A block known whole, behind a store of one cell into it, and into another. -/
theorem blk_set {w : World} {g : Nat} {cs : Array Value} {t : TypeId} (h : w.heap[g]? = some (.cells cs t (0, 0))) (i : Nat) (u : Value) : (w.setCell ⟨g, i, none⟩ u).heap[g]? = some (.cells (cs.setIfInBounds i u) t (0, 0)) := by
  rw [setCell_eq_setRow w g i cs t (0, 0) u h]
  exact setRow_heap w g cs _ t _ h
theorem blk_far {w : World} {g : Nat} {o : Obj} (h : w.heap[g]? = some o) {p : Addr} (hp : g ≠ p.block) (u : Value) : (w.setCell p u).heap[g]? = some o := by
  rw [Below.heap_setCell w p u g hp]; exact h
end Go.Proofs.YtjfffkaifcajbaaDoor

namespace Go.Proofs.YtjfffkaifcajbaaDoor
set_option linter.unusedSimpArgs false
set_option linter.unusedVariables false
open Go.RowKit

/-- A slice of integers that came in: nil, or a row of 'cap' cells, the numbers 'zs', the first 'len' its elements. -/
def IsRow (k : IntKind) (w : World) (a : Option Addr) (len cap : Nat) (zs : List Int) : Prop :=
  (a = none ∧ len = 0 ∧ cap = 0 ∧ zs = []) ∨
  ∃ x, a = some x ∧ len ≤ cap ∧ cap ≤ maxLen ∧ zs.length = cap ∧ (∀ i, i < zs.length → w.cell? (x.add i) = some (.int k (zs.getD i 0))) ∧ ∀ n ∈ zs, (Lit.int k n).wf = true

theorem lt_of_cell {w : World} {x : Addr} {v : Value} (h : w.cell? x = some v) : x.block < w.heap.size := by
  rcases Nat.lt_or_ge x.block w.heap.size with h' | h'
  · exact h'
  · simp [World.cell?, Array.getElem?_eq_none h'] at h
/-- A row of at least one cell stands at a plain address. -/
theorem IsRow.plain {k : IntKind} {w : World} {a : Option Addr} {len cap : Nat} {zs : List Int} (h : IsRow k w a len cap zs) (hl : 0 < cap) :
    ∃ b off, a = some ⟨b, off, none⟩ ∧ len ≤ cap ∧ cap ≤ maxLen ∧ zs.length = cap ∧ b < w.heap.size ∧ (∀ i, i < cap → w.cell? ⟨b, off + i, none⟩ = some (.int k (zs.getD i 0))) ∧ ∀ n ∈ zs, (Lit.int k n).wf = true := by
  rcases h with ⟨_, _, h, _⟩ | ⟨x, rfl, h1, h2, h3, h4, h5⟩
  · omega
  · obtain ⟨b, off, s⟩ := x
    have h0 := h4 0 (by omega)
    have hs : s = none := by
      cases s with
      | none => rfl
      | some y => 
        have : (⟨b, off, some y⟩ : Addr).add 0 = ⟨b, off, some y⟩ := by unfold Addr.add; simp
        rw [this] at h0
        unfold World.cell? at h0
        split at h0 <;> simp at h0
    subst hs
    have hc : ∀ i, i < cap → w.cell? ⟨b, off + i, none⟩ = some (.int k (zs.getD i 0)) := by
      intro i hi
      have := h4 i (by omega)
      by_cases h0 : i = 0
      · subst h0; simpa [Addr.add] using this
      · simpa [Addr.add, h0] using this
    exact ⟨b, off, rfl, h1, h2, h3, lt_of_cell (hc 0 hl), hc, h5⟩
/-- A cell that was there is there as it was. -/
theorem Gr.cellAt {w w1 : World} (h : Gr w w1) {x : Addr} {v : Value} (hx : w.cell? x = some v) : w1.cell? x = some v := by
  rw [Below.cell h (lt_of_cell hx)]; exact hx
end Go.Proofs.YtjfffkaifcajbaaDoor

namespace Go.Proofs.YtjfffkaifcajbaaDoor
set_option linter.unusedSimpArgs false
set_option linter.unusedVariables false
open Go.RowKit

theorem cell_alloc1 (w : World) (c : Value) (t : TypeId) : (w.alloc (.cells #[c] t)).cell? ⟨w.heap.size, 0, none⟩ = some c := by simp
/-- A row has grown to V, that lies in block g. -/
structure Grew (w w1 : World) (old V : Value) (g : Nat) : Prop where
  grown : w.grownBy w1 old.ownBlock
  at_ : old.ownBlock = some g ∨ g = w.heap.size
  lt : g < w1.heap.size
  own : V.ownBlock = some g

section
variable {P : Program} {ops : Array Oper} {rest : List Oper} {u : Oper} {a : Act} {w : World} {Q : Exit → Act → World → Prop}

/-- One element of one cell is appended. -/
theorem wpList_push1 (hgd : u.guard = none) (x y : Operand) (t : TypeId) (hu : u.op = .call { callee := .builtin .append, args := #[x, y], argTypes := #[t, t] })
    (base : Nat) (e : TypeId) (z : Value) (bytes : Nat) (ht : P.underlying t = some (.slice e)) (hinfo : (P.info? e).map (fun i => (i.zero, i.size, i.bytes)) = some (some z, 1, bytes)) (hzs : z.cells.size = 1) (hby : bytes ≤ 1000)
    (v : Value) (n : Nat) (xs : List Value) (c : Value) (hown : w.ownsRow base e 1 v n xs) (b : Nat)
    (hx : a.eval x = v) (hy : a.eval y = .slice (some ⟨b, 0, none⟩) 1 1) (hb : w.cell? ⟨b, 0, none⟩ = some c) (hc : c.oneCell' = true) (hn : n ≤ 100000000) (hbase : base ≤ w.heap.size)
    (K : ∀ g cap w1, Grew w w1 v (.slice (some ⟨g, 0, none⟩) (n + 1) cap) g → w1.ownsRow base e 1 (.slice (some ⟨g, 0, none⟩) (n + 1) cap) (n + 1) (xs ++ [c]) →
      wpList P ops Q rest (a.put u.dst (.slice (some ⟨g, 0, none⟩) (n + 1) cap)) w1) : wpList P ops Q (u :: rest) a w := by
  obtain ⟨i0, hi0, hz0, hz1, hz2⟩ := info_parts hinfo
  refine wpList_append_lies _ hgd x y t hu base e i0 _ 1 bytes ht hi0 hz0 hz1 hz2 hzs (by omega) _ _ _ hx hown ⟨b, 0, none⟩ 1 1 [c] hy rfl ?_ ?_ (by omega) ?_ ?_ hbase _ rfl ?_
  · intro j v hv
    have hj : j = 0 := by rcases j with _ | j <;> simp at hv <;> rfl
    subst hj
    simp at hv; subst hv
    simpa [Addr.add] using hb
  · intro v hv; simp at hv; subst hv; exact hc
  · simp only [maxLen]; omega
  · have : (n + 1) * bytes ≤ (n + 1) * 1000 := Nat.mul_le_mul_left _ hby
    omega
  · intro g cap w1 hown hgr hat hlt
    exact K g cap w1 ⟨hgr, hat, hlt, rfl⟩ hown

theorem step_pushN {K : Act → World → Prop} {E : Prop} (hgd : u.guard = none) (x y : Operand) (t : TypeId) (hu : u.op = .call { callee := .builtin .append, args := #[x, y], argTypes := #[t, t] })
    (base : Nat) (e : TypeId) (z : Value) (size bytes : Nat) (ht : P.underlying t = some (.slice e)) (hinfo : (P.info? e).map (fun i => (i.zero, i.size, i.bytes)) = some (some z, size, bytes)) (hzs : z.cells.size = size) (hsz : 0 < size) (hby : bytes ≤ 1000)
    (v : Value) (n : Nat) (xs : List Value) (cs : List Value) (hown : w.ownsRow base e size v n xs) (b : Nat) {e' : TypeId}
    (hx : a.eval x = v) (hy : a.eval y = .slice (some ⟨b, 0, none⟩) 1 1) (hb : w.heap[b]? = some (.cells cs.toArray e' (0, 0))) (hcs : cs.length = size) (hc : ∀ c ∈ cs, c.oneCell' = true) (hn : n ≤ 100000000) (hbase : base ≤ w.heap.size)
    (H : ∀ g cap w1, Grew w w1 v (.slice (some ⟨g, 0, none⟩) (n + 1) cap) g → w1.ownsRow base e size (.slice (some ⟨g, 0, none⟩) (n + 1) cap) (n + 1) (xs ++ cs) →
      K (a.put u.dst (.slice (some ⟨g, 0, none⟩) (n + 1) cap)) w1) : if Region.wanted u (yielded ops a.tmps) = true then Oper.wp P u a w K Q else E := by
  obtain ⟨i0, hi0, hz0, hz1, hz2⟩ := info_parts hinfo
  refine step_append_lies _ hgd x y t hu base e i0 _ size bytes ht hi0 hz0 hz1 hz2 hzs hsz _ _ _ hx hown ⟨b, 0, none⟩ 1 1 cs hy (by omega) ?_ hc (by omega) ?_ ?_ hbase _ rfl ?_
  · intro j v hv
    have hc := cell_of_row hb j v (by simpa using hv)
    have e : (⟨b, 0, none⟩ : Addr).add j = ⟨b, j, none⟩ := by rcases j with _ | j <;> simp [Addr.add]
    rw [e]; exact hc
  · simp only [maxLen]; omega
  · have : (n + 1) * bytes ≤ (n + 1) * 1000 := Nat.mul_le_mul_left _ hby
    omega
  · intro g cap w1 hown hgr hat hlt
    exact H g cap w1 ⟨hgr, hat, hlt, rfl⟩ hown
end

theorem ownsRow_blk {w : World} {B e size n : Nat} {v : Value} {xs : List Value} (h : w.ownsRow B e size v n xs) {k : Nat} (hk : v.ownBlock = some k) : k < w.heap.size := by
  rcases h.2 with ⟨hv, _⟩ | ⟨g, cap, cur, hv, _, hh, _⟩
  · rw [hv] at hk; cases hk
  · rw [hv] at hk
    simp only [Value.ownBlock, Option.some.injEq] at hk
    subst hk
    exact (Array.getElem?_eq_some_iff.1 hh).1
theorem ownsRow_base {w : World} {B e size n : Nat} {v : Value} {xs : List Value} (h : w.ownsRow B e size v n xs) {k : Nat} (hk : v.ownBlock = some k) : B ≤ k := by
  rcases h.2 with ⟨hv, _⟩ | ⟨g, cap, cur, hv, hB, hh, _⟩
  · rw [hv] at hk; cases hk
  · rw [hv] at hk
    simp only [Value.ownBlock, Option.some.injEq] at hk
    subst hk
    exact hB
/-- A row whose block has not changed. -/
theorem ownsRow_same {w w' : World} {B e size n : Nat} {v : Value} {xs : List Value} (h : w.ownsRow B e size v n xs) (hs : ∀ k, v.ownBlock = some k → w'.heap[k]? = w.heap[k]?) : w'.ownsRow B e size v n xs := by
  refine ⟨h.1, ?_⟩
  rcases h.2 with h2 | ⟨g, cap, cur, hv, hg, hh, r⟩
  · exact .inl h2
  · exact .inr ⟨g, cap, cur, hv, hg, by rw [hs g (by rw [hv]; rfl)]; exact hh, r⟩
theorem ownsRow_gr {w w' : World} {B e size n : Nat} {v : Value} {xs : List Value} (h : w.ownsRow B e size v n xs) (hg : Gr w w') : w'.ownsRow B e size v n xs :=
  ownsRow_same h fun k hk => hg.block k (ownsRow_blk h hk)
theorem row_form {w : World} {B e size n : Nat} {v : Value} {xs : List Value} (h : w.ownsRow B e size v n xs) : ∃ a cap, v = .slice a n cap := by
  rcases h.2 with ⟨rfl, rfl⟩ | ⟨g, cap, cur, rfl, _⟩
  · exact ⟨_, _, rfl⟩
  · exact ⟨_, _, rfl⟩
/-- What a row of the call's own that has grown leaves of what was there ahead of the call. -/
theorem Grew.gr {w0 w w1 : World} {old V : Value} {g : Nat} (h : Grew w w1 old V g) (h0 : Gr w0 w) (hb : ∀ k, old.ownBlock = some k → w0.heap.size ≤ k) : Gr w0 w1 :=
  Below.grown h0 h.grown h0.size (fun k hk => hb k hk)
theorem Grew.new {w w1 : World} {old V : Value} {g : Nat} (h : Grew w w1 old V g) {k : Nat} (hk : k < w.heap.size) (hne : old.ownBlock ≠ some k) : w1.heap[k]? = w.heap[k]? := h.grown.block k hk fun e => hne e.symm
theorem Grew.ne {w w1 : World} {old V : Value} {g : Nat} (h : Grew w w1 old V g) {k : Nat} (hk : k < w.heap.size) (hne : old.ownBlock ≠ some k) : k ≠ g := by
  rintro rfl
  rcases h.at_ with e | e
  · exact hne e
  · omega

/-- A row of one-cell elements, with or without room behind it. -/
def HasRow (w : World) (e : TypeId) (v : Value) (n : Nat) (xs : List Value) : Prop :=
  xs.length = n ∧ ((v = .slice none 0 0 ∧ n = 0) ∨ ∃ g cap cur, v = .slice (some ⟨g, 0, none⟩) n cap ∧ (∃ fr, w.heap[g]? = some (.cells cur e fr)) ∧ n ≤ cap ∧ cap ≤ cur.size ∧ cur.toList.take n = xs)
theorem HasRow.of_own {w : World} {B e n : Nat} {v : Value} {xs : List Value} (h : w.ownsRow B e 1 v n xs) : HasRow w e v n xs := by
  refine ⟨by simpa using h.1, ?_⟩
  rcases h.2 with h2 | ⟨g, cap, cur, hv, _, hh, hn, _, hs, ht⟩
  · exact .inl h2
  · exact .inr ⟨g, cap, cur, hv, ⟨_, hh⟩, hn, by omega, by simpa using ht⟩
theorem HasRow.nil (w : World) (e : TypeId) : HasRow w e (.slice none 0 0) 0 [] := ⟨rfl, .inl ⟨rfl, rfl⟩⟩
theorem HasRow.blk {w : World} {e n : Nat} {v : Value} {xs : List Value} (h : HasRow w e v n xs) {k : Nat} (hk : v.ownBlock = some k) : k < w.heap.size := by
  rcases h.2 with ⟨rfl, _⟩ | ⟨g, cap, cur, rfl, ⟨fr, hh⟩, _⟩
  · cases hk
  · simp only [Value.ownBlock, Option.some.injEq] at hk
    subst hk
    exact (Array.getElem?_eq_some_iff.1 hh).1
theorem HasRow.same {w w' : World} {e n : Nat} {v : Value} {xs : List Value} (h : HasRow w e v n xs) (hs : ∀ k, v.ownBlock = some k → w'.heap[k]? = w.heap[k]?) : HasRow w' e v n xs := by
  refine ⟨h.1, ?_⟩
  rcases h.2 with h2 | ⟨g, cap, cur, hv, hh, r⟩
  · exact .inl h2
  · exact .inr ⟨g, cap, cur, hv, by rw [hs g (by rw [hv]; rfl)]; exact hh, r⟩
theorem HasRow.gr {w w' : World} {e n : Nat} {v : Value} {xs : List Value} (h : HasRow w e v n xs) (hg : Gr w w') : HasRow w' e v n xs := h.same fun k hk => hg.block k (h.blk hk)
theorem HasRow.form {w : World} {e n : Nat} {v : Value} {xs : List Value} (h : HasRow w e v n xs) : ∃ a cap, v = .slice a n cap := by
  rcases h.2 with ⟨rfl, rfl⟩ | ⟨g, cap, cur, rfl, _⟩
  · exact ⟨_, _, rfl⟩
  · exact ⟨_, _, rfl⟩
theorem HasRow.cells {w : World} {e n g : Nat} {v : Value} {xs : List Value} (h : HasRow w e v n xs) (hg : v.ownBlock = some g) (j : Nat) (u : Value) (hj : xs[j]? = some u) : w.cell? ⟨g, j, none⟩ = some u := by
  rcases h.2 with ⟨rfl, _⟩ | ⟨g', cap, cur, rfl, hh, hn, hc, ht⟩
  · cases hg
  · simp only [Value.ownBlock, Option.some.injEq] at hg
    subst hg
    obtain ⟨fr, hh⟩ := hh
    refine cell_of_row hh j u ?_
    rw [← ht, List.getElem?_take] at hj
    split at hj
    · simpa using hj
    · cases hj
end Go.Proofs.YtjfffkaifcajbaaDoor

namespace Go.Proofs.YtjfffkaifcajbaaDoor
set_option linter.unusedSimpArgs false
set_option linter.unusedVariables false
open Go.RowKit

/-- Every operation's slot filled. -/
def fillA : List Oper → Nat → (Nat → Value) → Act → Act
  | [], _, _, a => a
  | o :: l, i, ys, a => fillA l (i + 1) ys (a.put o.dst (ys i))

theorem put_put (a : Act) (d : Option Tmp) (u v : Value) : (a.put d u).put d v = a.put d v := by
  cases d with
  | none => rfl
  | some d => simp [Act.put]
theorem fillA_put (l : List Oper) : ∀ (i : Nat) (ys : Nat → Value) (a : Act) (d : Option Tmp) (v : Value), (∀ o ∈ l, ∀ t, d = some t → o.dst ≠ some t) → fillA l i ys (a.put d v) = (fillA l i ys a).put d v := by
  induction l with
  | nil => intros; rfl
  | cons o l ih =>
    intro i ys a d v h
    simp only [fillA]
    rw [Act.put_comm a v (ys i) (fun t ht e => h o (by simp) t ht e), ih _ _ _ _ _ fun o' ho' => h o' (by simp [ho'])]
theorem fillA_congr (l : List Oper) : ∀ (i : Nat) (ys zs : Nat → Value) (a : Act), (∀ j, i ≤ j → ys j = zs j) → fillA l i ys a = fillA l i zs a := by
  induction l with
  | nil => intros; rfl
  | cons o l ih =>
    intro i ys zs a h
    simp only [fillA]
    rw [h i (Nat.le_refl _), ih _ ys zs _ fun j hj => h j (by omega)]
/-- No slot is two operations'. -/
def apartD : List Oper → Bool
  | [] => true
  | o :: l => (match o.dst with | none => true | some t => l.all fun o' => o'.dst != some t) && apartD l
theorem apartD_cons {o : Oper} {l : List Oper} (h : apartD (o :: l) = true) : (∀ o' ∈ l, ∀ t, o.dst = some t → o'.dst ≠ some t) ∧ apartD l = true := by
  simp only [apartD, Bool.and_eq_true] at h
  refine ⟨fun o' ho' t ht => ?_, h.2⟩
  have := h.1
  rw [ht] at this
  simp at this
  exact this o' ho'
theorem fillA_set (l : List Oper) : ∀ (i k : Nat) (o : Oper) (ys : Nat → Value) (a : Act) (v : Value), apartD l = true → l[k]? = some o → (fillA l i ys a).put o.dst v = fillA l i (fun j => if j = i + k then v else ys j) a := by
  induction l with
  | nil => intro i k o ys a v _ h; simp at h
  | cons p l ih =>
    intro i k o ys a v hd hk
    obtain ⟨h1, h2⟩ := apartD_cons hd
    rcases k with _ | k
    · simp only [List.getElem?_cons_zero, Option.some.injEq] at hk
      subst hk
      simp only [fillA, Nat.add_zero, if_true]
      rw [← fillA_put l _ _ _ _ _ (fun o' ho' t ht => h1 o' ho' t ht), put_put]
      exact fillA_congr _ _ _ _ _ fun j hj => by rw [if_neg (by omega)]
    · simp only [fillA]
      rw [if_neg (by omega), ih (i + 1) k o ys _ v h2 (by simpa using hk)]
      exact fillA_congr _ _ _ _ _ fun j hj => by rw [show i + 1 + k = i + (k + 1) by omega]
theorem put_old (a : Act) (d : Option Tmp) : a.put d ((d.map fun t => a.tmps.getD t undef).getD undef) = a := by
  cases d with
  | none => rfl
  | some t =>
    simp only [Act.put, Option.map_some, Option.getD_some]
    congr 1
    apply Array.ext
    · simp
    · intro j h1 h2
      by_cases e : t = j
      · subst e; simp [Array.getElem_setIfInBounds, h2]
      · rw [Array.getElem_setIfInBounds_ne (by simpa using h1) e]
theorem fillA_old (l : List Oper) (a : Act) : ∀ i : Nat, ∃ ys, fillA l i ys a = a := by
  induction l with
  | nil => intro i; exact ⟨fun _ => undef, rfl⟩
  | cons o l ih =>
    intro i
    obtain ⟨ys, h⟩ := ih (i + 1)
    refine ⟨fun j => if j = i then (o.dst.map fun t => a.tmps.getD t undef).getD undef else ys j, ?_⟩
    simp only [fillA, if_true]
    rw [put_old, fillA_congr l (i + 1) _ ys _ fun j hj => by rw [if_neg (by omega)]]
    exact h

/-- What those that stand ahead of an operation have left. -/
def Preds (md : Region.Mode) (F : Nat → Value → World → Prop) (ys : Nat → Value) (w : World) : List Edge → Prop
  | [] => True
  | e :: l => (Region.binds md e = true → F e.on (ys e.on) w) ∧ Preds md F ys w l
theorem Preds.of {md : Region.Mode} {F : Nat → Value → World → Prop} {ys : Nat → Value} {w : World} : ∀ {l : List Edge}, (∀ e ∈ l, Region.binds md e = true → F e.on (ys e.on) w) → Preds md F ys w l
  | [], _ => trivial
  | e :: l, h => ⟨h e (by simp), Preds.of fun e' he' => h e' (by simp [he'])⟩

section
variable {P : Program} {md : Region.Mode} {ops : Array Oper} {Q : Exit → Act → World → Prop}

/-- What is to be shown of each operation. -/
def Steps (P : Program) (md : Region.Mode) (ops : Array Oper) (Q : Exit → Act → World → Prop) (F : Nat → Value → World → Prop) (Base : World → Prop) (A : (Nat → Value) → Act) : Nat → List Oper → Prop
  | _, [] => True
  | i, o :: l => (∀ (ys : Nat → Value) (w : World), Base w → Preds md F ys w o.after.toList → ∀ K : Act → World → Prop,
      (∀ v w', Base w' → F i v w' → (∀ j u, j ≠ i → F j u w → F j u w') → K ((A ys).put o.dst v) w') →
      if Region.wanted o (yielded ops (A ys).tmps) = true then Oper.wp P o (A ys) w K Q else K ((A ys).put o.dst undef) w) ∧ Steps P md ops Q F Base A (i + 1) l
theorem Steps.nil {F : Nat → Value → World → Prop} {Base : World → Prop} {A : (Nat → Value) → Act} {i : Nat} : Steps P md ops Q F Base A i [] := trivial
theorem Steps.cons {F : Nat → Value → World → Prop} {Base : World → Prop} {A : (Nat → Value) → Act} {i : Nat} {o : Oper} {l : List Oper}
    (h : ∀ (ys : Nat → Value) (w : World), Base w → Preds md F ys w o.after.toList → ∀ K : Act → World → Prop,
      (∀ v w', Base w' → F i v w' → (∀ j u, j ≠ i → F j u w → F j u w') → K ((A ys).put o.dst v) w') →
      if Region.wanted o (yielded ops (A ys).tmps) = true then Oper.wp P o (A ys) w K Q else K ((A ys).put o.dst undef) w)
    (hl : Steps P md ops Q F Base A (i + 1) l) : Steps P md ops Q F Base A i (o :: l) := ⟨h, hl⟩
/-- .. of one without a guard. -/
theorem Steps.cons1 {F : Nat → Value → World → Prop} {Base : World → Prop} {A : (Nat → Value) → Act} {i : Nat} {o : Oper} {l : List Oper} (k : Nat) (hk : k = i + 1) (hg : o.guard = none)
    (h : ∀ (ys : Nat → Value) (w : World), Base w → Preds md F ys w o.after.toList → ∀ K : Act → World → Prop,
      (∀ v w', Base w' → F i v w' → (∀ j u, j ≠ i → F j u w → F j u w') → K ((A ys).put o.dst v) w') → Oper.wp P o (A ys) w K Q)
    (hl : Steps P md ops Q F Base A k l) : Steps P md ops Q F Base A i (o :: l) :=
  ⟨fun ys w hB hP K hK => by rw [if_pos (by simp [Region.wanted, hg])]; exact h ys w hB hP K hK, hk ▸ hl⟩
theorem Steps.at {F : Nat → Value → World → Prop} {Base : World → Prop} {A : (Nat → Value) → Act} : ∀ {l : List Oper} {i : Nat}, Steps P md ops Q F Base A i l → ∀ k o, l[k]? = some o → ∀ (ys : Nat → Value) (w : World), Base w → Preds md F ys w o.after.toList → ∀ K : Act → World → Prop,
      (∀ v w', Base w' → F (i + k) v w' → (∀ j u, j ≠ i + k → F j u w → F j u w') → K ((A ys).put o.dst v) w') →
      if Region.wanted o (yielded ops (A ys).tmps) = true then Oper.wp P o (A ys) w K Q else K ((A ys).put o.dst undef) w
  | [], _, _, _, _, h => by simp at h
  | p :: l, i, hs, 0, o, h => by
    simp only [List.getElem?_cons_zero, Option.some.injEq] at h
    subst h
    exact hs.1
  | p :: l, i, hs, k + 1, o, h => by
    have := Steps.at hs.2 k o (by simpa using h)
    rw [show i + 1 + k = i + (k + 1) by omega] at this
    exact this

theorem wpAny_facts_go (F : Nat → Value → World → Prop) (Base : World → Prop) (a0 : Act) (hback : ((List.range ops.size).all fun i => (ops[i]?.map fun o => o.after.all fun e => decide (e.on < i)).getD true) = true) (hdst : apartD ops.toList = true)
    (hstep : Steps P md ops Q F Base (fun ys => fillA ops.toList 0 ys a0) 0 ops.toList)
    (hend : ∀ ys w, Base w → (∀ i, i < ops.size → F i (ys i) w) → Q .normal (fillA ops.toList 0 ys a0) w) :
    ∀ (fuel : Nat) (listed : Array Bool) (ys : Nat → Value) (w : World), listed.size = ops.size → listed.toList.count false ≤ fuel → Base w → (∀ i, listed[i]? = some true → F i (ys i) w) →
      wpAny P md ops Q fuel listed (fillA ops.toList 0 ys a0) w := by
  have hfull : ∀ (listed : Array Bool), listed.size = ops.size → Region.ready md ops listed = [] → ∀ i, i < ops.size → listed[i]? = some true := by
    intro listed hsz hr i
    induction i using Nat.strongRecOn with
    | ind i ih =>
      intro hi
      rcases hb : listed[i]'(by omega) with _ | _
      · exfalso
        have : i ∈ Region.ready md ops listed := by
          unfold Region.ready
          rw [List.mem_filter]
          refine ⟨by simpa using hi, ?_⟩
          have e1 : listed.getD i true = false := by simp [Array.getD, hsz, hi, hb]
          have e2 : ops[i]? = some ops[i] := by simp [hi]
          rw [e1, e2]
          simp only [Bool.not_false, Bool.true_and, Option.map_some, Option.getD_some, Array.all_eq_true]
          intro k hk
          have hbk := List.all_eq_true.1 hback i (by simpa using hi)
          rw [e2] at hbk
          simp only [Option.map_some, Option.getD_some, Array.all_eq_true] at hbk
          have hlt := of_decide_eq_true (hbk k hk)
          have := ih _ hlt (by omega)
          simp [Array.getD_eq_getD_getElem?, this]
        rw [hr] at this
        cases this
      · simp [hsz, hi, hb]
  intro fuel
  induction fuel with
  | zero =>
    intro listed ys w hsz hc hB hF
    have hall : ∀ i, i < ops.size → listed[i]? = some true := by
      intro i hi
      have h0 : listed.toList.count false = 0 := by omega
      rw [List.count_eq_zero] at h0
      rcases hb : listed[i]'(by omega) with _ | _
      · exact absurd (by rw [← hb]; exact Array.getElem_mem_toList _) h0
      · simp [hsz, hi, hb]
    refine ⟨?_, hend ys w hB fun i hi => hF i (hall i hi)⟩
    unfold Region.ready
    rw [List.filter_eq_nil_iff]
    intro i hi
    have hi' : i < ops.size := by simpa using hi
    have : listed.getD i true = true := by simp [Array.getD_eq_getD_getElem?, hall i hi']
    simp [this]
  | succ fuel ih =>
    intro listed ys w hsz hc hB hF
    refine ⟨fun hr => hend ys w hB fun i hi => hF i (hfull listed hsz hr i hi), fun i hi => ?_⟩
    unfold Region.ready at hi
    rw [List.mem_filter] at hi
    obtain ⟨hi1, hi2⟩ := hi
    have hi' : i < ops.size := by simpa using hi1
    have e2 : ops[i]? = some ops[i] := by simp [hi']
    rw [e2] at hi2
    simp only [Option.map_some, Option.getD_some, Bool.and_eq_true, Bool.not_eq_true'] at hi2
    obtain ⟨hf, ha⟩ := hi2
    refine wpOp_step e2 fun K' hK' => ?_
    have hl : ops.toList[i]? = some ops[i] := by simp [hi']
    have := Steps.at hstep i ops[i] hl ys w hB (Preds.of fun e he hb => hF _ ?_) K' ?_
    · exact this
    · have := Array.all_eq_true'.1 ha e (by simpa using he)
      rw [hb] at this
      simp only [Bool.not_true, Bool.false_or, Array.getD_eq_getD_getElem?] at this
      rcases hx : listed[e.on]? with _ | b
      · rw [hx] at this; cases this
      · rw [hx] at this; simp at this; rw [this]
    · intro v w' hB' hFi hkeep
      rw [Nat.zero_add] at hFi hkeep
      refine hK' _ _ ?_
      rw [fillA_set _ _ i _ ys a0 v hdst hl]
      refine ih _ _ _ (by simpa using hsz) ?_ hB' ?_
      · have hlt : i < listed.size := by omega
        have hfi : listed[i] = false := by simpa [Array.getD, hlt] using hf
        have : (listed.setIfInBounds i true).toList.count false + 1 = listed.toList.count false := by
          rw [Array.toList_setIfInBounds]
          have h1 : i < listed.toList.length := by simpa using hlt
          rw [List.count_set h1]
          have h2 : listed.toList[i] = false := by simpa using hfi
          have h3 : 0 < listed.toList.count false := List.count_pos_iff.2 (by rw [← h2]; exact List.getElem_mem h1)
          rw [h2, if_pos (show (false == false) = true from rfl), if_neg (by decide)]
          omega
        omega
      · intro j hj
        by_cases e : j = i
        · subst e; simpa using hFi
        · rw [if_neg (by omega)]
          refine hkeep j _ e (hF j ?_)
          rw [Array.getElem?_setIfInBounds_ne (by omega)] at hj
          exact hj

theorem wp_region_facts {id : Nat} {a : Act} {w : World} (F : Nat → Value → World → Prop) (Base : World → Prop) (hm : P.follows .mixedOrders = true)
    (hback : ((List.range ops.size).all fun i => (ops[i]?.map fun o => o.after.all fun e => decide (e.on < i)).getD true) = true) (hdst : apartD ops.toList = true)
    (hB : Base w.drew)
    (hstep : Steps P .any ops Q F Base (fun ys => fillA ops.toList 0 ys a) 0 ops.toList)
    (hend : ∀ ys w, Base w → (∀ i, i < ops.size → F i (ys i) w) → Q .normal (fillA ops.toList 0 ys a) w) : (Code.region id ops true).wp P Q a w := by
  refine wp_region_any hm ?_
  obtain ⟨ys, h⟩ := fillA_old ops.toList a 0
  have := wpAny_facts_go (P := P) (md := .any) (Q := Q) F Base a hback hdst hstep hend ops.size (Array.replicate ops.size false) ys w.drew (by simp) (by simp) hB (fun i hi => by
    rcases Nat.lt_or_ge i ops.size with h1 | h1
    · simp [h1] at hi
    · rw [Array.getElem?_eq_none (by simpa using h1)] at hi; cases hi)
  rw [h] at this
  exact this
end
end Go.Proofs.YtjfffkaifcajbaaDoor

namespace Go.Proofs.YtjfffkaifcajbaaDoor
set_option linter.unusedSimpArgs false
set_option linter.unusedVariables false
open Go.RowKit

theorem laidMet_tail2 {P : Program} {W : World} {x : String × DataW Unit} {l : List (String × DataW Unit)} (h : laidMet P (x :: l) W) : laidMet P l W := by
  obtain ⟨n, d⟩ := x
  obtain ⟨ps, ⟨g, t, cs, f, p, q, _, _, _, _, hr, rfl⟩, hn, hc⟩ := h
  exact ⟨q, hr, (List.nodup_append.1 hn).2.1, fun b off hm => hc b off (List.mem_append.2 (.inr hm))⟩
theorem tabIs_head2 {P : Program} {W : World} {name : String} {k : IntKind} {zs : List Int} {D : DataW Unit} {rest : List (String × DataW Unit)} {g : Nat} {t e : TypeId} {n : Nat} (hD : D = Lib.tabData k zs)
    (hg : P.globalNamed name = some g) (hty : (P.globals[g]?).map (·.type) = some t) (ht : P.underlying t = some (.array n e)) (he : P.underlying e = some (.int k)) (hce : P.cellsOf e = 1) (hct : P.cellsOf t = n)
    (h : laidMet P ((name, D) :: rest) W) : Lib.TabIs P W name k zs := by
  subst hD; exact Lib.tabIs_of_head hg hty ht he hce hct h
theorem tabIs_gr {P : Program} {w w' : World} {name : String} {k : IntKind} {zs : List Int} {g : Nat} (hg : P.globalNamed name = some g) (hz : zs ≠ []) (h : Lib.TabIs P w name k zs) (hb : Gr w w') : Lib.TabIs P w' name k zs := by
  have h0 := h.cell hg 0 (List.length_pos_iff.2 hz)
  have hl := lt_of_cell h0
  unfold Lib.TabIs World.var? at h ⊢
  rw [hg] at h ⊢
  simp only [Option.bind_eq_bind, Option.bind_some] at h ⊢
  rw [hb.block g hl]
  exact h
end Go.Proofs.YtjfffkaifcajbaaDoor

namespace Go.Proofs.YtjfffkaifcajbaaDoor
set_option linter.unusedSimpArgs false
set_option linter.unusedVariables false
open Go.RowKit

def setY (ys : Nat → Value) (i : Nat) (v : Value) : Nat → Value := fun j => if j = i then v else ys j
theorem setY_at (ys : Nat → Value) (i : Nat) (v : Value) : setY ys i v i = v := by simp [setY]
/-- What is known where an operation begins: which are done ('L'), and what they have left. -/
structure Done (md : Region.Mode) (ops : Array Oper) (F : Nat → (Nat → Value) → World → Prop) (D : Nat → Nat → Value → Value → Prop) (L : Nat → Prop) (ys : Nat → Value) (w : World) : Prop where
  fact : ∀ j, L j → F j ys w
  two : ∀ j k, L j → L k → j < k → D j k (ys j) (ys k)
  back : ∀ j o, L j → ops[j]? = some o → ∀ e ∈ o.after.toList, Region.binds md e = true → L e.on
  lt : ∀ j, L j → j < ops.size

section
variable {P : Program} {md : Region.Mode} {ops : Array Oper} {Q : Exit → Act → World → Prop}

def LAll (md : Region.Mode) (L : Nat → Prop) : List Edge → Prop
  | [] => True
  | e :: l => (Region.binds md e = true → L e.on) ∧ LAll md L l
theorem LAll.of {L : Nat → Prop} : ∀ {l : List Edge}, (∀ e ∈ l, Region.binds md e = true → L e.on) → LAll md L l
  | [], _ => trivial
  | e :: l, h => ⟨h e (by simp), LAll.of fun e' he' => h e' (by simp [he'])⟩

/-- One operation's step. -/
def Step2 (P : Program) (md : Region.Mode) (ops : Array Oper) (Q : Exit → Act → World → Prop) (F : Nat → (Nat → Value) → World → Prop) (D : Nat → Nat → Value → Value → Prop) (Base : World → Prop) (A : (Nat → Value) → Act) (i : Nat) (o : Oper) : Prop :=
  ∀ (L : Nat → Prop) (ys : Nat → Value) (w : World), Base w → Done md ops F D L ys w → LAll md L o.after.toList → ¬ L i → ∀ K : Act → World → Prop,
      (∀ v w', Base w' → F i (setY ys i v) w' → (∀ j, L j → F j ys w → F j ys w') → (∀ j, L j → (i < j → D i j v (ys j)) ∧ (j < i → D j i (ys j) v)) → K ((A ys).put o.dst v) w') →
      if Region.wanted o (yielded ops (A ys).tmps) = true then Oper.wp P o (A ys) w K Q else K ((A ys).put o.dst undef) w
def Steps2 (P : Program) (md : Region.Mode) (ops : Array Oper) (Q : Exit → Act → World → Prop) (F : Nat → (Nat → Value) → World → Prop) (D : Nat → Nat → Value → Value → Prop) (Base : World → Prop) (A : (Nat → Value) → Act) : Nat → List Oper → Prop
  | _, [] => True
  | i, o :: l => Step2 P md ops Q F D Base A i o ∧ Steps2 P md ops Q F D Base A (i + 1) l
theorem Steps2.nil {F : Nat → (Nat → Value) → World → Prop} {D : Nat → Nat → Value → Value → Prop} {Base : World → Prop} {A : (Nat → Value) → Act} {i : Nat} : Steps2 P md ops Q F D Base A i [] := trivial
/-- .. of one without a guard. -/
theorem Steps2.cons1 {F : Nat → (Nat → Value) → World → Prop} {D : Nat → Nat → Value → Value → Prop} {Base : World → Prop} {A : (Nat → Value) → Act} {i : Nat} {o : Oper} {l : List Oper} (k : Nat) (hk : k = i + 1) (hg : o.guard = none)
    (h : ∀ (L : Nat → Prop) (ys : Nat → Value) (w : World), Base w → Done md ops F D L ys w → LAll md L o.after.toList → ¬ L i → ∀ K : Act → World → Prop,
      (∀ v w', Base w' → F i (setY ys i v) w' → (∀ j, L j → F j ys w → F j ys w') → (∀ j, L j → (i < j → D i j v (ys j)) ∧ (j < i → D j i (ys j) v)) → K ((A ys).put o.dst v) w') → Oper.wp P o (A ys) w K Q)
    (hl : Steps2 P md ops Q F D Base A k l) : Steps2 P md ops Q F D Base A i (o :: l) :=
  ⟨fun L ys w hB hD hP hn K hK => by rw [if_pos (by simp [Region.wanted, hg])]; exact h L ys w hB hD hP hn K hK, hk ▸ hl⟩
theorem Steps2.at {F : Nat → (Nat → Value) → World → Prop} {D : Nat → Nat → Value → Value → Prop} {Base : World → Prop} {A : (Nat → Value) → Act} : ∀ {l : List Oper} {i : Nat}, Steps2 P md ops Q F D Base A i l → ∀ k o, l[k]? = some o → Step2 P md ops Q F D Base A (i + k) o
  | [], _, _, _, _, h => by simp at h
  | p :: l, i, hs, 0, o, h => by
    simp only [List.getElem?_cons_zero, Option.some.injEq] at h
    subst h
    exact hs.1
  | p :: l, i, hs, k + 1, o, h => by
    have := Steps2.at hs.2 k o (by simpa using h)
    rw [show i + 1 + k = i + (k + 1) by omega] at this
    exact this

end
end Go.Proofs.YtjfffkaifcajbaaDoor

namespace Go.Proofs.YtjfffkaifcajbaaDoor
set_option linter.unusedSimpArgs false
set_option linter.unusedVariables false
open Go.RowKit

/-- What is known where an operation begins: which are done ('L'), and what they have left. -/
structure Done7 (md : Region.Mode) (ops : Array Oper) (F : Nat → (Nat → Value) → World → Prop) (D : Nat → Nat → Value → Value → Prop) (dead : Nat → Nat → Bool) (G : Nat → World → Prop) (L : Nat → Prop) (ys : Nat → Value) (w : World) : Prop where
  fact : ∀ j, L j → (∀ i, L i → dead i j = false) → F j ys w
  two : ∀ j k, L j → L k → j < k → D j k (ys j) (ys k)
  back : ∀ j o, L j → ops[j]? = some o → ∀ e ∈ o.after.toList, Region.binds md e = true → L e.on
  lt : ∀ j, L j → j < ops.size
  yet : ∀ j, ¬ L j → G j w

section
variable {P : Program} {md : Region.Mode} {ops : Array Oper} {Q : Exit → Act → World → Prop}

/-- One operation's step. -/
def Step7 (P : Program) (md : Region.Mode) (ops : Array Oper) (Q : Exit → Act → World → Prop) (F : Nat → (Nat → Value) → World → Prop) (D : Nat → Nat → Value → Value → Prop) (dead : Nat → Nat → Bool) (G : Nat → World → Prop) (Base : World → Prop) (A : (Nat → Value) → Act) (i : Nat) (o : Oper) : Prop :=
  ∀ (L : Nat → Prop) (ys : Nat → Value) (w : World), Base w → Done7 md ops F D dead G L ys w → LAll md L o.after.toList → ¬ L i → ∀ K : Act → World → Prop,
      (∀ v w', Base w' → F i (setY ys i v) w' → (∀ j, L j → dead i j = false → F j ys w → F j ys w') → (∀ j, ¬ L j → j ≠ i → G j w → G j w') → (∀ j, L j → (i < j → D i j v (ys j)) ∧ (j < i → D j i (ys j) v)) → K ((A ys).put o.dst v) w') →
      if Region.wanted o (yielded ops (A ys).tmps) = true then Oper.wp P o (A ys) w K Q else K ((A ys).put o.dst undef) w
def Steps7 (P : Program) (md : Region.Mode) (ops : Array Oper) (Q : Exit → Act → World → Prop) (F : Nat → (Nat → Value) → World → Prop) (D : Nat → Nat → Value → Value → Prop) (dead : Nat → Nat → Bool) (G : Nat → World → Prop) (Base : World → Prop) (A : (Nat → Value) → Act) : Nat → List Oper → Prop
  | _, [] => True
  | i, o :: l => Step7 P md ops Q F D dead G Base A i o ∧ Steps7 P md ops Q F D dead G Base A (i + 1) l
theorem Steps7.nil {F : Nat → (Nat → Value) → World → Prop} {D : Nat → Nat → Value → Value → Prop} {dead : Nat → Nat → Bool} {G : Nat → World → Prop} {Base : World → Prop} {A : (Nat → Value) → Act} {i : Nat} : Steps7 P md ops Q F D dead G Base A i [] := trivial
/-- .. of one without a guard. -/
theorem Steps7.cons1 {F : Nat → (Nat → Value) → World → Prop} {D : Nat → Nat → Value → Value → Prop} {dead : Nat → Nat → Bool} {G : Nat → World → Prop} {Base : World → Prop} {A : (Nat → Value) → Act} {i : Nat} {o : Oper} {l : List Oper} (k : Nat) (hk : k = i + 1) (hg : o.guard = none)
    (h : ∀ (L : Nat → Prop) (ys : Nat → Value) (w : World), Base w → Done7 md ops F D dead G L ys w → LAll md L o.after.toList → ¬ L i → ∀ K : Act → World → Prop,
      (∀ v w', Base w' → F i (setY ys i v) w' → (∀ j, L j → dead i j = false → F j ys w → F j ys w') → (∀ j, ¬ L j → j ≠ i → G j w → G j w') → (∀ j, L j → (i < j → D i j v (ys j)) ∧ (j < i → D j i (ys j) v)) → K ((A ys).put o.dst v) w') → Oper.wp P o (A ys) w K Q)
    (hl : Steps7 P md ops Q F D dead G Base A k l) : Steps7 P md ops Q F D dead G Base A i (o :: l) :=
  ⟨fun L ys w hB hD hP hn K hK => by rw [if_pos (by simp [Region.wanted, hg])]; exact h L ys w hB hD hP hn K hK, hk ▸ hl⟩
theorem Steps7.at {F : Nat → (Nat → Value) → World → Prop} {D : Nat → Nat → Value → Value → Prop} {dead : Nat → Nat → Bool} {G : Nat → World → Prop} {Base : World → Prop} {A : (Nat → Value) → Act} : ∀ {l : List Oper} {i : Nat}, Steps7 P md ops Q F D dead G Base A i l → ∀ k o, l[k]? = some o → Step7 P md ops Q F D dead G Base A (i + k) o
  | [], _, _, _, _, h => by simp at h
  | p :: l, i, hs, 0, o, h => by
    simp only [List.getElem?_cons_zero, Option.some.injEq] at h
    subst h
    exact hs.1
  | p :: l, i, hs, k + 1, o, h => by
    have := Steps7.at hs.2 k o (by simpa using h)
    rw [show i + 1 + k = i + (k + 1) by omega] at this
    exact this

theorem wpAny_facts7_go (F : Nat → (Nat → Value) → World → Prop) (D : Nat → Nat → Value → Value → Prop) (dead : Nat → Nat → Bool) (G : Nat → World → Prop) (Base : World → Prop) (a0 : Act) (hback : ((List.range ops.size).all fun i => (ops[i]?.map fun o => o.after.all fun e => !(Region.binds md e) || decide (e.on < i)).getD true) = true) (hdst : apartD ops.toList = true)
    (hcong : ∀ j o, ops[j]? = some o → ∀ ys zs w, ys j = zs j → (∀ e ∈ o.after.toList, Region.binds md e = true → ys e.on = zs e.on) → F j ys w → F j zs w)
    (hstep : Steps7 P md ops Q F D dead G Base (fun ys => fillA ops.toList 0 ys a0) 0 ops.toList)
    (hend : ∀ ys w, Base w → (∀ i, i < ops.size → (∀ k, k < ops.size → dead k i = false) → F i ys w) → (∀ i j, i < j → j < ops.size → D i j (ys i) (ys j)) → Q .normal (fillA ops.toList 0 ys a0) w) :
    ∀ (fuel : Nat) (listed : Array Bool) (ys : Nat → Value) (w : World), listed.size = ops.size → listed.toList.count false ≤ fuel → Base w → Done7 md ops F D dead G (fun i => listed[i]? = some true) ys w →
      wpAny P md ops Q fuel listed (fillA ops.toList 0 ys a0) w := by
  have hfull : ∀ (listed : Array Bool), listed.size = ops.size → Region.ready md ops listed = [] → ∀ i, i < ops.size → listed[i]? = some true := by
    intro listed hsz hr i
    induction i using Nat.strongRecOn with
    | ind i ih =>
      intro hi
      rcases hb : listed[i]'(by omega) with _ | _
      · exfalso
        have : i ∈ Region.ready md ops listed := by
          unfold Region.ready
          rw [List.mem_filter]
          refine ⟨by simpa using hi, ?_⟩
          have e1 : listed.getD i true = false := by simp [Array.getD, hsz, hi, hb]
          have e2 : ops[i]? = some ops[i] := by simp [hi]
          rw [e1, e2]
          simp only [Bool.not_false, Bool.true_and, Option.map_some, Option.getD_some, Array.all_eq_true]
          intro k hk
          have hbk := List.all_eq_true.1 hback i (by simpa using hi)
          rw [e2] at hbk
          simp only [Option.map_some, Option.getD_some, Array.all_eq_true] at hbk
          have hlt := hbk k hk
          rw [Bool.or_eq_true] at hlt ⊢
          rcases hlt with hlt | hlt
          · exact .inl hlt
          · right
            have := ih _ (of_decide_eq_true hlt) (by have := of_decide_eq_true hlt; omega)
            simp [Array.getD_eq_getD_getElem?, this]
        rw [hr] at this
        cases this
      · simp [hsz, hi, hb]
  intro fuel
  induction fuel with
  | zero =>
    intro listed ys w hsz hc hB hD
    have hall : ∀ i, i < ops.size → listed[i]? = some true := by
      intro i hi
      have h0 : listed.toList.count false = 0 := by omega
      rw [List.count_eq_zero] at h0
      rcases hb : listed[i]'(by omega) with _ | _
      · exact absurd (by rw [← hb]; exact Array.getElem_mem_toList _) h0
      · simp [hsz, hi, hb]
    refine ⟨?_, hend ys w hB (fun i hi hk => hD.fact i (hall i hi) fun k hl => hk k (hD.lt k hl)) fun i j hij hj => hD.two i j (hall i (by omega)) (hall j hj) hij⟩
    unfold Region.ready
    rw [List.filter_eq_nil_iff]
    intro i hi
    have hi' : i < ops.size := by simpa using hi
    have : listed.getD i true = true := by simp [Array.getD_eq_getD_getElem?, hall i hi']
    simp [this]
  | succ fuel ih =>
    intro listed ys w hsz hc hB hD
    refine ⟨fun hr => hend ys w hB (fun i hi hk => hD.fact i (hfull listed hsz hr i hi) fun k hl => hk k (hD.lt k hl)) fun i j hij hj => hD.two i j (hfull listed hsz hr i (by omega)) (hfull listed hsz hr j hj) hij, fun i hi => ?_⟩
    unfold Region.ready at hi
    rw [List.mem_filter] at hi
    obtain ⟨hi1, hi2⟩ := hi
    have hi' : i < ops.size := by simpa using hi1
    have e2 : ops[i]? = some ops[i] := by simp [hi']
    rw [e2] at hi2
    simp only [Option.map_some, Option.getD_some, Bool.and_eq_true, Bool.not_eq_true'] at hi2
    obtain ⟨hf, ha⟩ := hi2
    have hlt : i < listed.size := by omega
    have hfi : listed[i] = false := by simpa [Array.getD, hlt] using hf
    have hni : ¬ (listed[i]? = some true) := by simp [hlt, hfi]
    have hpre : ∀ e ∈ ops[i].after.toList, Region.binds md e = true → listed[e.on]? = some true := by
      intro e he hb
      have := Array.all_eq_true'.1 ha e (by simpa using he)
      rw [hb] at this
      simp only [Bool.not_true, Bool.false_or, Array.getD_eq_getD_getElem?] at this
      rcases hx : listed[e.on]? with _ | b
      · rw [hx] at this; cases this
      · rw [hx] at this; simp at this; rw [this]
    refine wpOp_step e2 fun K' hK' => ?_
    have hl : ops.toList[i]? = some ops[i] := by simp [hi']
    have hst := Steps7.at hstep i ops[i] hl
    rw [Nat.zero_add] at hst
    have := hst (fun i => listed[i]? = some true) ys w hB hD (LAll.of hpre) hni K' ?_
    · exact this
    · intro v w' hB' hFi hkeep hyet hD2
      refine hK' _ _ ?_
      rw [fillA_set _ _ i _ ys a0 v hdst hl, Nat.zero_add]
      have hset : ∀ j, (listed.setIfInBounds i true)[j]? = some true ↔ (j = i ∨ listed[j]? = some true) := by
        intro j
        by_cases e : j = i
        · subst e; simp [hlt]
        · rw [Array.getElem?_setIfInBounds_ne (by omega)]; simp [e]
      refine ih _ _ _ (by simpa using hsz) ?_ hB' ?_
      · have : (listed.setIfInBounds i true).toList.count false + 1 = listed.toList.count false := by
          rw [Array.toList_setIfInBounds]
          have h1 : i < listed.toList.length := by simpa using hlt
          rw [List.count_set h1]
          have h2 : listed.toList[i] = false := by simpa using hfi
          have h3 : 0 < listed.toList.count false := List.count_pos_iff.2 (by rw [← h2]; exact List.getElem_mem h1)
          rw [h2, if_pos (show (false == false) = true from rfl), if_neg (by decide)]
          omega
        omega
      · refine ⟨fun j hj hal => ?_, fun j k hj hk hjk => ?_, fun j o hj ho e he hb => ?_, fun j hj => ?_, fun j hj => ?_⟩
        · rcases (hset j).1 hj with rfl | hj'
          · exact hFi
          · have hji : j ≠ i := by rintro rfl; exact hni hj'
            have hjs := hD.lt j hj'
            refine hcong j ops[j] (by simp [hjs]) ys _ w' (by simp [hji]) (fun e he hb => ?_) (hkeep j hj' (hal i ((hset i).2 (.inl rfl))) (hD.fact j hj' fun k hk => hal k ((hset k).2 (.inr hk))))
            have := hD.back j ops[j] hj' (by simp [hjs]) e he hb
            have hei : e.on ≠ i := by intro x; rw [x] at this; exact hni this
            simp [hei]
        · rcases (hset j).1 hj with rfl | hj'
          · rcases (hset k).1 hk with rfl | hk'
            · omega
            · have hkj : k ≠ j := by omega
              simpa [hkj] using (hD2 k hk').1 hjk
          · rcases (hset k).1 hk with rfl | hk'
            · have hkj : j ≠ k := by omega
              simpa [hkj] using (hD2 j hj').2 hjk
            · have h1 : j ≠ i := by rintro rfl; exact hni hj'
              have h2 : k ≠ i := by rintro rfl; exact hni hk'
              simpa [h1, h2] using hD.two j k hj' hk' hjk
        · rcases (hset j).1 hj with rfl | hj'
          · rw [e2] at ho; injection ho with ho; subst ho
            exact (hset _).2 (.inr (hpre e he hb))
          · exact (hset _).2 (.inr (hD.back j o hj' ho e he hb))
        · rcases (hset j).1 hj with rfl | hj'
          · exact hi'
          · exact hD.lt j hj'
        · have h1 : ¬ listed[j]? = some true := fun h => hj ((hset j).2 (.inr h))
          exact hyet j h1 (fun e => hj ((hset j).2 (.inl e))) (hD.yet j h1)

theorem wp_region_facts7 {id : Nat} {a : Act} {w : World} (F : Nat → (Nat → Value) → World → Prop) (D : Nat → Nat → Value → Value → Prop) (dead : Nat → Nat → Bool) (G : Nat → World → Prop) (Base : World → Prop) (hm : P.follows .mixedOrders = true)
    (hback : ((List.range ops.size).all fun i => (ops[i]?.map fun o => o.after.all fun e => !(Region.binds .any e) || decide (e.on < i)).getD true) = true) (hdst : apartD ops.toList = true)
    (hcong : ∀ j o, ops[j]? = some o → ∀ ys zs w, ys j = zs j → (∀ e ∈ o.after.toList, Region.binds .any e = true → ys e.on = zs e.on) → F j ys w → F j zs w)
    (hB : Base w.drew) (hG : ∀ j, G j w.drew)
    (hstep : Steps7 P .any ops Q F D dead G Base (fun ys => fillA ops.toList 0 ys a) 0 ops.toList)
    (hend : ∀ ys w, Base w → (∀ i, i < ops.size → (∀ k, k < ops.size → dead k i = false) → F i ys w) → (∀ i j, i < j → j < ops.size → D i j (ys i) (ys j)) → Q .normal (fillA ops.toList 0 ys a) w) : (Code.region id ops true).wp P Q a w := by
  refine wp_region_any hm ?_
  obtain ⟨ys, h⟩ := fillA_old ops.toList a 0
  have he : ∀ i : Nat, ¬ ((Array.replicate ops.size false)[i]? = some true) := by
    intro i hi
    rcases Nat.lt_or_ge i ops.size with h1 | h1
    · simp [h1] at hi
    · rw [Array.getElem?_eq_none (by simpa using h1)] at hi; cases hi
  have hd0 : Done7 .any ops F D dead G (fun i : Nat => (Array.replicate ops.size false)[i]? = some true) ys w.drew :=
    ⟨fun i hi _ => absurd hi (he i), fun i _ hi _ _ => absurd hi (he i), fun i _ hi _ _ _ _ => absurd hi (he i), fun i hi => absurd hi (he i), fun j _ => hG j⟩
  have := wpAny_facts7_go (P := P) (md := .any) (Q := Q) F D dead G Base a hback hdst hcong hstep hend ops.size (Array.replicate ops.size false) ys w.drew (by simp) (by simp) hB
    hd0
  rw [h] at this
  exact this
end
end Go.Proofs.YtjfffkaifcajbaaDoor

namespace Go.Proofs.YtjfffkaifcajbaaDoor
set_option linter.unusedSimpArgs false
set_option linter.unusedVariables false
open Go.RowKit
section
variable {P : Program} {md : Region.Mode} {ops : Array Oper} {Q : Exit → Act → World → Prop}
theorem wpAny_facts5_go (F : Nat → (Nat → Value) → World → Prop) (D : Nat → Nat → Value → Value → Prop) (Base : World → Prop) (a0 : Act) (hback : ((List.range ops.size).all fun i => (ops[i]?.map fun o => o.after.all fun e => !(Region.binds md e) || decide (e.on < i)).getD true) = true) (hdst : apartD ops.toList = true)
    (hcong : ∀ j o, ops[j]? = some o → ∀ ys zs w, ys j = zs j → (∀ e ∈ o.after.toList, Region.binds md e = true → ys e.on = zs e.on) → F j ys w → F j zs w)
    (hstep : Steps2 P md ops Q F D Base (fun ys => fillA ops.toList 0 ys a0) 0 ops.toList)
    (hend : ∀ ys w, Base w → (∀ i, i < ops.size → F i ys w) → (∀ i j, i < j → j < ops.size → D i j (ys i) (ys j)) → Q .normal (fillA ops.toList 0 ys a0) w) :
    ∀ (fuel : Nat) (listed : Array Bool) (ys : Nat → Value) (w : World), listed.size = ops.size → listed.toList.count false ≤ fuel → Base w → Done md ops F D (fun i => listed[i]? = some true) ys w →
      wpAny P md ops Q fuel listed (fillA ops.toList 0 ys a0) w := by
  have hfull : ∀ (listed : Array Bool), listed.size = ops.size → Region.ready md ops listed = [] → ∀ i, i < ops.size → listed[i]? = some true := by
    intro listed hsz hr i
    induction i using Nat.strongRecOn with
    | ind i ih =>
      intro hi
      rcases hb : listed[i]'(by omega) with _ | _
      · exfalso
        have : i ∈ Region.ready md ops listed := by
          unfold Region.ready
          rw [List.mem_filter]
          refine ⟨by simpa using hi, ?_⟩
          have e1 : listed.getD i true = false := by simp [Array.getD, hsz, hi, hb]
          have e2 : ops[i]? = some ops[i] := by simp [hi]
          rw [e1, e2]
          simp only [Bool.not_false, Bool.true_and, Option.map_some, Option.getD_some, Array.all_eq_true]
          intro k hk
          have hbk := List.all_eq_true.1 hback i (by simpa using hi)
          rw [e2] at hbk
          simp only [Option.map_some, Option.getD_some, Array.all_eq_true] at hbk
          have hlt := hbk k hk
          rw [Bool.or_eq_true] at hlt ⊢
          rcases hlt with hlt | hlt
          · exact .inl hlt
          · right
            have := ih _ (of_decide_eq_true hlt) (by have := of_decide_eq_true hlt; omega)
            simp [Array.getD_eq_getD_getElem?, this]
        rw [hr] at this
        cases this
      · simp [hsz, hi, hb]
  intro fuel
  induction fuel with
  | zero =>
    intro listed ys w hsz hc hB hD
    have hall : ∀ i, i < ops.size → listed[i]? = some true := by
      intro i hi
      have h0 : listed.toList.count false = 0 := by omega
      rw [List.count_eq_zero] at h0
      rcases hb : listed[i]'(by omega) with _ | _
      · exact absurd (by rw [← hb]; exact Array.getElem_mem_toList _) h0
      · simp [hsz, hi, hb]
    refine ⟨?_, hend ys w hB (fun i hi => hD.fact i (hall i hi)) fun i j hij hj => hD.two i j (hall i (by omega)) (hall j hj) hij⟩
    unfold Region.ready
    rw [List.filter_eq_nil_iff]
    intro i hi
    have hi' : i < ops.size := by simpa using hi
    have : listed.getD i true = true := by simp [Array.getD_eq_getD_getElem?, hall i hi']
    simp [this]
  | succ fuel ih =>
    intro listed ys w hsz hc hB hD
    refine ⟨fun hr => hend ys w hB (fun i hi => hD.fact i (hfull listed hsz hr i hi)) fun i j hij hj => hD.two i j (hfull listed hsz hr i (by omega)) (hfull listed hsz hr j hj) hij, fun i hi => ?_⟩
    unfold Region.ready at hi
    rw [List.mem_filter] at hi
    obtain ⟨hi1, hi2⟩ := hi
    have hi' : i < ops.size := by simpa using hi1
    have e2 : ops[i]? = some ops[i] := by simp [hi']
    rw [e2] at hi2
    simp only [Option.map_some, Option.getD_some, Bool.and_eq_true, Bool.not_eq_true'] at hi2
    obtain ⟨hf, ha⟩ := hi2
    have hlt : i < listed.size := by omega
    have hfi : listed[i] = false := by simpa [Array.getD, hlt] using hf
    have hni : ¬ (listed[i]? = some true) := by simp [hlt, hfi]
    have hpre : ∀ e ∈ ops[i].after.toList, Region.binds md e = true → listed[e.on]? = some true := by
      intro e he hb
      have := Array.all_eq_true'.1 ha e (by simpa using he)
      rw [hb] at this
      simp only [Bool.not_true, Bool.false_or, Array.getD_eq_getD_getElem?] at this
      rcases hx : listed[e.on]? with _ | b
      · rw [hx] at this; cases this
      · rw [hx] at this; simp at this; rw [this]
    refine wpOp_step e2 fun K' hK' => ?_
    have hl : ops.toList[i]? = some ops[i] := by simp [hi']
    have hst := Steps2.at hstep i ops[i] hl
    rw [Nat.zero_add] at hst
    have := hst (fun i => listed[i]? = some true) ys w hB hD (LAll.of hpre) hni K' ?_
    · exact this
    · intro v w' hB' hFi hkeep hD2
      refine hK' _ _ ?_
      rw [fillA_set _ _ i _ ys a0 v hdst hl, Nat.zero_add]
      have hset : ∀ j, (listed.setIfInBounds i true)[j]? = some true ↔ (j = i ∨ listed[j]? = some true) := by
        intro j
        by_cases e : j = i
        · subst e; simp [hlt]
        · rw [Array.getElem?_setIfInBounds_ne (by omega)]; simp [e]
      refine ih _ _ _ (by simpa using hsz) ?_ hB' ?_
      · have : (listed.setIfInBounds i true).toList.count false + 1 = listed.toList.count false := by
          rw [Array.toList_setIfInBounds]
          have h1 : i < listed.toList.length := by simpa using hlt
          rw [List.count_set h1]
          have h2 : listed.toList[i] = false := by simpa using hfi
          have h3 : 0 < listed.toList.count false := List.count_pos_iff.2 (by rw [← h2]; exact List.getElem_mem h1)
          rw [h2, if_pos (show (false == false) = true from rfl), if_neg (by decide)]
          omega
        omega
      · refine ⟨fun j hj => ?_, fun j k hj hk hjk => ?_, fun j o hj ho e he hb => ?_, fun j hj => ?_⟩
        · rcases (hset j).1 hj with rfl | hj'
          · exact hFi
          · have hji : j ≠ i := by rintro rfl; exact hni hj'
            have hjs := hD.lt j hj'
            refine hcong j ops[j] (by simp [hjs]) ys _ w' (by simp [hji]) (fun e he hb => ?_) (hkeep j hj' (hD.fact j hj'))
            have := hD.back j ops[j] hj' (by simp [hjs]) e he hb
            have hei : e.on ≠ i := by intro x; rw [x] at this; exact hni this
            simp [hei]
        · rcases (hset j).1 hj with rfl | hj'
          · rcases (hset k).1 hk with rfl | hk'
            · omega
            · have hkj : k ≠ j := by omega
              simpa [hkj] using (hD2 k hk').1 hjk
          · rcases (hset k).1 hk with rfl | hk'
            · have hkj : j ≠ k := by omega
              simpa [hkj] using (hD2 j hj').2 hjk
            · have h1 : j ≠ i := by rintro rfl; exact hni hj'
              have h2 : k ≠ i := by rintro rfl; exact hni hk'
              simpa [h1, h2] using hD.two j k hj' hk' hjk
        · rcases (hset j).1 hj with rfl | hj'
          · rw [e2] at ho; injection ho with ho; subst ho
            exact (hset _).2 (.inr (hpre e he hb))
          · exact (hset _).2 (.inr (hD.back j o hj' ho e he hb))
        · rcases (hset j).1 hj with rfl | hj'
          · exact hi'
          · exact hD.lt j hj'

theorem wp_region_facts5 {id : Nat} {a : Act} {w : World} (F : Nat → (Nat → Value) → World → Prop) (D : Nat → Nat → Value → Value → Prop) (Base : World → Prop) (hm : P.follows .mixedOrders = true)
    (hback : ((List.range ops.size).all fun i => (ops[i]?.map fun o => o.after.all fun e => !(Region.binds .any e) || decide (e.on < i)).getD true) = true) (hdst : apartD ops.toList = true)
    (hcong : ∀ j o, ops[j]? = some o → ∀ ys zs w, ys j = zs j → (∀ e ∈ o.after.toList, Region.binds .any e = true → ys e.on = zs e.on) → F j ys w → F j zs w)
    (hB : Base w.drew)
    (hstep : Steps2 P .any ops Q F D Base (fun ys => fillA ops.toList 0 ys a) 0 ops.toList)
    (hend : ∀ ys w, Base w → (∀ i, i < ops.size → F i ys w) → (∀ i j, i < j → j < ops.size → D i j (ys i) (ys j)) → Q .normal (fillA ops.toList 0 ys a) w) : (Code.region id ops true).wp P Q a w := by
  refine wp_region_any hm ?_
  obtain ⟨ys, h⟩ := fillA_old ops.toList a 0
  have he : ∀ i : Nat, ¬ ((Array.replicate ops.size false)[i]? = some true) := by
    intro i hi
    rcases Nat.lt_or_ge i ops.size with h1 | h1
    · simp [h1] at hi
    · rw [Array.getElem?_eq_none (by simpa using h1)] at hi; cases hi
  have hd0 : Done .any ops F D (fun i : Nat => (Array.replicate ops.size false)[i]? = some true) ys w.drew :=
    ⟨fun i hi => absurd hi (he i), fun i _ hi _ _ => absurd hi (he i), fun i _ hi _ _ _ _ => absurd hi (he i), fun i hi => absurd hi (he i)⟩
  have := wpAny_facts5_go (P := P) (md := .any) (Q := Q) F D Base a hback hdst hcong hstep hend ops.size (Array.replicate ops.size false) ys w.drew (by simp) (by simp) hB
    hd0
  rw [h] at this
  exact this
end
end Go.Proofs.YtjfffkaifcajbaaDoor

namespace Go.Proofs.YtjfffkaifcajbaaDoor
set_option linter.unusedSimpArgs false
set_option linter.unusedVariables false
open Go.RowKit
section
variable {P : Program} {md : Region.Mode} {ops : Array Oper} {Q : Exit → Act → World → Prop}
theorem wpAny_facts3_go (F : Nat → Value → World → Prop) (Base : World → Prop) (a0 : Act) (hback : ((List.range ops.size).all fun i => (ops[i]?.map fun o => o.after.all fun e => !(Region.binds md e) || decide (e.on < i)).getD true) = true) (hdst : apartD ops.toList = true)
    (hstep : Steps P md ops Q F Base (fun ys => fillA ops.toList 0 ys a0) 0 ops.toList)
    (hend : ∀ ys w, Base w → (∀ i, i < ops.size → F i (ys i) w) → Q .normal (fillA ops.toList 0 ys a0) w) :
    ∀ (fuel : Nat) (listed : Array Bool) (ys : Nat → Value) (w : World), listed.size = ops.size → listed.toList.count false ≤ fuel → Base w → (∀ i, listed[i]? = some true → F i (ys i) w) →
      wpAny P md ops Q fuel listed (fillA ops.toList 0 ys a0) w := by
  have hfull : ∀ (listed : Array Bool), listed.size = ops.size → Region.ready md ops listed = [] → ∀ i, i < ops.size → listed[i]? = some true := by
    intro listed hsz hr i
    induction i using Nat.strongRecOn with
    | ind i ih =>
      intro hi
      rcases hb : listed[i]'(by omega) with _ | _
      · exfalso
        have : i ∈ Region.ready md ops listed := by
          unfold Region.ready
          rw [List.mem_filter]
          refine ⟨by simpa using hi, ?_⟩
          have e1 : listed.getD i true = false := by simp [Array.getD, hsz, hi, hb]
          have e2 : ops[i]? = some ops[i] := by simp [hi]
          rw [e1, e2]
          simp only [Bool.not_false, Bool.true_and, Option.map_some, Option.getD_some, Array.all_eq_true]
          intro k hk
          have hbk := List.all_eq_true.1 hback i (by simpa using hi)
          rw [e2] at hbk
          simp only [Option.map_some, Option.getD_some, Array.all_eq_true] at hbk
          have hlt := hbk k hk
          rw [Bool.or_eq_true] at hlt ⊢
          rcases hlt with hlt | hlt
          · exact .inl hlt
          · right
            have := ih _ (of_decide_eq_true hlt) (by have := of_decide_eq_true hlt; omega)
            simp [Array.getD_eq_getD_getElem?, this]
        rw [hr] at this
        cases this
      · simp [hsz, hi, hb]
  intro fuel
  induction fuel with
  | zero =>
    intro listed ys w hsz hc hB hF
    have hall : ∀ i, i < ops.size → listed[i]? = some true := by
      intro i hi
      have h0 : listed.toList.count false = 0 := by omega
      rw [List.count_eq_zero] at h0
      rcases hb : listed[i]'(by omega) with _ | _
      · exact absurd (by rw [← hb]; exact Array.getElem_mem_toList _) h0
      · simp [hsz, hi, hb]
    refine ⟨?_, hend ys w hB fun i hi => hF i (hall i hi)⟩
    unfold Region.ready
    rw [List.filter_eq_nil_iff]
    intro i hi
    have hi' : i < ops.size := by simpa using hi
    have : listed.getD i true = true := by simp [Array.getD_eq_getD_getElem?, hall i hi']
    simp [this]
  | succ fuel ih =>
    intro listed ys w hsz hc hB hF
    refine ⟨fun hr => hend ys w hB fun i hi => hF i (hfull listed hsz hr i hi), fun i hi => ?_⟩
    unfold Region.ready at hi
    rw [List.mem_filter] at hi
    obtain ⟨hi1, hi2⟩ := hi
    have hi' : i < ops.size := by simpa using hi1
    have e2 : ops[i]? = some ops[i] := by simp [hi']
    rw [e2] at hi2
    simp only [Option.map_some, Option.getD_some, Bool.and_eq_true, Bool.not_eq_true'] at hi2
    obtain ⟨hf, ha⟩ := hi2
    refine wpOp_step e2 fun K' hK' => ?_
    have hl : ops.toList[i]? = some ops[i] := by simp [hi']
    have := Steps.at hstep i ops[i] hl ys w hB (Preds.of fun e he hb => hF _ ?_) K' ?_
    · exact this
    · have := Array.all_eq_true'.1 ha e (by simpa using he)
      rw [hb] at this
      simp only [Bool.not_true, Bool.false_or, Array.getD_eq_getD_getElem?] at this
      rcases hx : listed[e.on]? with _ | b
      · rw [hx] at this; cases this
      · rw [hx] at this; simp at this; rw [this]
    · intro v w' hB' hFi hkeep
      rw [Nat.zero_add] at hFi hkeep
      refine hK' _ _ ?_
      rw [fillA_set _ _ i _ ys a0 v hdst hl]
      refine ih _ _ _ (by simpa using hsz) ?_ hB' ?_
      · have hlt : i < listed.size := by omega
        have hfi : listed[i] = false := by simpa [Array.getD, hlt] using hf
        have : (listed.setIfInBounds i true).toList.count false + 1 = listed.toList.count false := by
          rw [Array.toList_setIfInBounds]
          have h1 : i < listed.toList.length := by simpa using hlt
          rw [List.count_set h1]
          have h2 : listed.toList[i] = false := by simpa using hfi
          have h3 : 0 < listed.toList.count false := List.count_pos_iff.2 (by rw [← h2]; exact List.getElem_mem h1)
          rw [h2, if_pos (show (false == false) = true from rfl), if_neg (by decide)]
          omega
        omega
      · intro j hj
        by_cases e : j = i
        · subst e; simpa using hFi
        · rw [if_neg (by omega)]
          refine hkeep j _ e (hF j ?_)
          rw [Array.getElem?_setIfInBounds_ne (by omega)] at hj
          exact hj

theorem wp_region_facts3 {id : Nat} {a : Act} {w : World} (F : Nat → Value → World → Prop) (Base : World → Prop) (hm : P.follows .mixedOrders = true)
    (hback : ((List.range ops.size).all fun i => (ops[i]?.map fun o => o.after.all fun e => !(Region.binds .any e) || decide (e.on < i)).getD true) = true) (hdst : apartD ops.toList = true)
    (hB : Base w.drew)
    (hstep : Steps P .any ops Q F Base (fun ys => fillA ops.toList 0 ys a) 0 ops.toList)
    (hend : ∀ ys w, Base w → (∀ i, i < ops.size → F i (ys i) w) → Q .normal (fillA ops.toList 0 ys a) w) : (Code.region id ops true).wp P Q a w := by
  refine wp_region_any hm ?_
  obtain ⟨ys, h⟩ := fillA_old ops.toList a 0
  have := wpAny_facts3_go (P := P) (md := .any) (Q := Q) F Base a hback hdst hstep hend ops.size (Array.replicate ops.size false) ys w.drew (by simp) (by simp) hB (fun i hi => by
    rcases Nat.lt_or_ge i ops.size with h1 | h1
    · simp [h1] at hi
    · rw [Array.getElem?_eq_none (by simpa using h1)] at hi; cases hi)
  rw [h] at this
  exact this
end
end Go.Proofs.YtjfffkaifcajbaaDoor

namespace Go.Proofs.YtjfffkaifcajbaaDoor
set_option linter.unusedSimpArgs false
set_option linter.unusedVariables false
open Go.RowKit
theorem fillA_size (l : List Oper) : ∀ (i : Nat) (ys : Nat → Value) (a : Act), (fillA l i ys a).tmps.size = a.tmps.size := by
  induction l with
  | nil => intros; rfl
  | cons o l ih =>
    intro i ys a
    simp only [fillA]
    rw [ih]
    cases o.dst <;> simp [Act.put]
theorem fillA_get (l : List Oper) (i k : Nat) (o : Oper) (ys : Nat → Value) (a : Act) (t : Tmp) (hd : apartD l = true) (hk : l[k]? = some o) (ht : o.dst = some t) (hs : t < a.tmps.size) : (fillA l i ys a).tmps[t]? = some (ys (i + k)) := by
  have h := fillA_set l i k o ys a (ys (i + k)) hd hk
  have e : (fun j => if j = i + k then ys (i + k) else ys j) = ys := by
    funext j
    by_cases hj : j = i + k
    · rw [if_pos hj, hj]
    · rw [if_neg hj]
  rw [e] at h
  rw [← h, ht]
  have hs2 : t < (fillA l i ys a).tmps.size := by rw [fillA_size]; exact hs
  simp [Act.put, hs2]
section
variable {P : Program} {md : Region.Mode} {ops : Array Oper} {Q : Exit → Act → World → Prop}
/-- Does the guard's operation fill a slot that there is? -/
def guardSlot (ops : Array Oper) (g n : Nat) : Bool := match (ops.toList[g]?).bind (·.dst) with
  | some t => decide (t < n)
  | none => false
theorem wanted_fill {o : Oper} {g : Nat} {b c : Bool} {ys : Nat → Value} {a0 : Act} (hg : o.guard = some (g, b)) (hap : apartD ops.toList = true) (hs : guardSlot ops g a0.tmps.size = true) (hy : ys g = .bool c) :
    Region.wanted o (yielded ops (fillA ops.toList 0 ys a0).tmps) = (c == b) := by
  unfold guardSlot at hs
  cases hog : ops.toList[g]? with
  | none => rw [hog] at hs; cases hs
  | some og =>
    rw [hog] at hs
    cases hd : og.dst with
    | none => simp [hd] at hs
    | some t =>
      simp [hd] at hs
      have hget := fillA_get ops.toList 0 g og ys a0 t hap hog hd hs
      rw [Nat.zero_add, hy] at hget
      have hog2 : ops[g]? = some og := by simpa using hog
      unfold Region.wanted yielded
      rw [hg]
      simp only [hog2, Option.bind_some, hd, hget]
      cases b <;> cases c <;> rfl
theorem Steps.consY {F : Nat → Value → World → Prop} {Base : World → Prop} {a0 : Act} {i : Nat} {o : Oper} {l : List Oper} (k : Nat) (hk : k = i + 1) (g : Nat) (b : Bool) (hg : o.guard = some (g, b)) (hap : apartD ops.toList = true) (hs : guardSlot ops g a0.tmps.size = true)
    (hv : ∀ (ys : Nat → Value) (w : World), Base w → Preds md F ys w o.after.toList → ys g = .bool b)
    (h : ∀ (ys : Nat → Value) (w : World), Base w → Preds md F ys w o.after.toList → ∀ K : Act → World → Prop,
      (∀ v w', Base w' → F i v w' → (∀ j u, j ≠ i → F j u w → F j u w') → K ((fillA ops.toList 0 ys a0).put o.dst v) w') → Oper.wp P o (fillA ops.toList 0 ys a0) w K Q)
    (hl : Steps P md ops Q F Base (fun ys => fillA ops.toList 0 ys a0) k l) : Steps P md ops Q F Base (fun ys => fillA ops.toList 0 ys a0) i (o :: l) :=
  ⟨fun ys w hB hP K hK => by
    rw [if_pos (by rw [wanted_fill hg hap hs (hv ys w hB hP)]; simp)]
    exact h ys w hB hP K hK, hk ▸ hl⟩
theorem wp_region_facts6 {id : Nat} {a : Act} {w : World} (F : Nat → Value → World → Prop) (Base : World → Prop) (hm : P.follows .mixedOrders = true)
    (hback : ((List.range ops.size).all fun i => (ops[i]?.map fun o => o.after.all fun e => !(Region.binds .any e) || decide (e.on < i)).getD true) = true) (hdst : apartD ops.toList = true)
    (hB : Base w.drew)
    (hstep : apartD ops.toList = true → Steps P .any ops Q F Base (fun ys => fillA ops.toList 0 ys a) 0 ops.toList)
    (hend : ∀ ys w, Base w → (∀ i, i < ops.size → F i (ys i) w) → Q .normal (fillA ops.toList 0 ys a) w) : (Code.region id ops true).wp P Q a w :=
  wp_region_facts3 F Base hm hback hdst hB (hstep hdst) hend
end
end Go.Proofs.YtjfffkaifcajbaaDoor
