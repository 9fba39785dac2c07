/-
  A parser and its tokens in memory; what a step may change.
-/
import Derived.Test.YtomflpkokcldeaaCm
import Derived.Test.YtomflpkokcldeaaPaN
namespace Go.Proofs.Ytomflpkokcldeaa
set_option linter.unusedSimpArgs false
set_option linter.unusedVariables false
set_option linter.unusedSectionVars false
open Go.RowKit
/-- The least block that the rows of a parser and its tokens may lie in. -/
class Bs where
  b : Nat
variable [Bs]

/-- Of the blocks that were there only those of a list may have changed; there may be new ones. -/
structure Upd (lv : List Nat) (w w' : World) : Prop where
  os : w'.os = w.os
  tape : w'.tape = w.tape
  output : w'.output = w.output
  size : w.heap.size ≤ w'.heap.size
  block : ∀ k, k < w.heap.size → k ∉ lv → w'.heap[k]? = w.heap[k]?

/-- .. and what may change from now on is what might have, or new. -/
structure Stp (lv : List Nat) (w : World) (lv' : List Nat) (w' : World) : Prop where
  upd : Upd lv w w'
  new : ∀ k ∈ lv', k ∈ lv ∨ w.heap.size ≤ k

theorem Upd.refl (lv : List Nat) (w : World) : Upd lv w w := ⟨rfl, rfl, rfl, Nat.le_refl _, fun _ _ _ => rfl⟩
theorem Upd.of_gr {lv : List Nat} {w w' : World} (h : Gr w w') : Upd lv w w' := ⟨h.os, h.tape, h.output, h.size, fun k hk _ => h.block k hk⟩
theorem Stp.refl (lv : List Nat) (w : World) : Stp lv w lv w := ⟨.refl _ _, fun _ h => .inl h⟩
theorem Stp.trans {a b c : List Nat} {u v w : World} (h : Stp a u b v) (k : Stp b v c w) : Stp a u c w := by
  refine ⟨⟨k.upd.os.trans h.upd.os, k.upd.tape.trans h.upd.tape, k.upd.output.trans h.upd.output, Nat.le_trans h.upd.size k.upd.size, fun i hi hn => ?_⟩, fun i hi => ?_⟩
  · rw [k.upd.block i (Nat.lt_of_lt_of_le hi h.upd.size) (fun hb => by rcases h.new i hb with h' | h'; exact hn h'; omega)]
    exact h.upd.block i hi hn
  · rcases k.new i hi with h' | h'
    · exact h.new i h'
    · exact .inr (Nat.le_trans h.upd.size h')

/-- The cells of a parser. -/
def pcells (s : PS) (iv dv av : Value) : Array Value :=
  #[.int .i64 s.phase, .int .i64 s.kind, .int .u8 s.code, .int .u8 s.mark, .slice none 0 0, .string ⟨#[]⟩, dv, iv, av, .int .i64 s.now, .bool s.begun, .bool s.first, .bool s.void]

/-- A token's numbers and data in memory. -/
structure TMem (lv : List Nat) (w : World) (t : Tok) (pv dv : Value) : Prop where
  params : HasRow w 3 pv t.params.length (icells t.params)
  data : HasRow w 5 dv t.data.length (bcells t.data)
  pOut : ∀ k, pv.ownBlock = some k → k ∉ lv
  dOut : ∀ k, dv.ownBlock = some k → k ∉ lv
  pNew : ∀ k, pv.ownBlock = some k → Bs.b ≤ k
  dNew : ∀ k, dv.ownBlock = some k → Bs.b ≤ k

def tcells (t : Tok) (q : Value × Value) : List Value := [.int .i64 t.kind, .int .u8 t.code, .int .u8 t.mark, q.1, .string (strOf t.inters), q.2]
def tsCells : List Tok → List (Value × Value) → List Value
  | t :: ts, q :: qs => tcells t q ++ tsCells ts qs
  | _, _ => []

theorem TMem.upd {lv lv2 lv' : List Nat} {w w' : World} {t : Tok} {pv dv : Value} (h : TMem lv w t pv dv) (hu : Upd lv2 w w') (h2 : ∀ k, k < w.heap.size → k ∈ lv2 → k ∈ lv) (h3 : ∀ k, k < w.heap.size → k ∈ lv' → k ∈ lv) : TMem lv' w' t pv dv :=
  ⟨h.params.same fun k hk => hu.block k (h.params.blk hk) fun x => h.pOut k hk (h2 k (h.params.blk hk) x),
   h.data.same fun k hk => hu.block k (h.data.blk hk) fun x => h.dOut k hk (h2 k (h.data.blk hk) x),
   fun k hk x => h.pOut k hk (h3 k (h.params.blk hk) x), fun k hk x => h.dOut k hk (h3 k (h.data.blk hk) x), h.pNew, h.dNew⟩

/-- A whole row is stored into a block of its own size: only that block changes. -/
theorem wpList_store_only {P : Program} {ops : Array Oper} {rest : List Oper} {o : Oper} {a : Act} {w : World} {Q : Exit → Act → World → Prop}
    (hgd : o.guard = none) (ty : TypeId) (x y : Operand) (ho : o.op = .store ty x y) (g : Nat) (cells : Array Value)
    (hx : a.eval x = .pointer (some ⟨g, 0, none⟩)) (hy : a.eval y = .agg cells) (t : TypeId) (old : Array Value) (hg : w.heap[g]? = some (.cells old t (0, 0)))
    (hi : (P.info? ty).map (·.size) = some cells.size) (hold : old.size = cells.size) (h1 : cells.all (·.oneCell') = true)
    (h : ∀ w', w'.heap[g]? = some (.cells cells t (0, 0)) → Upd [g] w w' → w'.heap.size = w.heap.size → wpList P ops Q rest (a.put o.dst undef) w') : wpList P ops Q (o :: rest) a w :=
  wpList_plain hgd fun _ hK => wp_store_row ty x y ho g cells hx hy t old hg hi hold h1
    (hK _ _ (h _ (setRow_heap w g old cells t _ hg) ⟨rfl, rfl, rfl, by simp [World.setRow], fun k _ hk => setRow_other w g k cells (by simpa using hk)⟩ (by simp)))

theorem cells13 {w : World} {g : Nat} {v0 v1 v2 v3 v4 v5 v6 v7 v8 v9 v10 v11 v12 : Value} {t : TypeId} (h : w.heap[g]? = some (.cells #[v0, v1, v2, v3, v4, v5, v6, v7, v8, v9, v10, v11, v12] t (0, 0))) :
    w.cell? ⟨g, 0, none⟩ = some v0 ∧ w.cell? ⟨g, 1, none⟩ = some v1 ∧ w.cell? ⟨g, 2, none⟩ = some v2 ∧ w.cell? ⟨g, 3, none⟩ = some v3 ∧ w.cell? ⟨g, 4, none⟩ = some v4 ∧ w.cell? ⟨g, 5, none⟩ = some v5 ∧ w.cell? ⟨g, 6, none⟩ = some v6 ∧
    w.cell? ⟨g, 7, none⟩ = some v7 ∧ w.cell? ⟨g, 8, none⟩ = some v8 ∧ w.cell? ⟨g, 9, none⟩ = some v9 ∧ w.cell? ⟨g, 10, none⟩ = some v10 ∧ w.cell? ⟨g, 11, none⟩ = some v11 ∧ w.cell? ⟨g, 12, none⟩ = some v12 ∧ ∀ i, w.frozen? ⟨g, i, none⟩ = false := by
  refine ⟨?_, ?_, ?_, ?_, ?_, ?_, ?_, ?_, ?_, ?_, ?_, ?_, ?_, ?_⟩
  all_goals first | (simp [World.cell?, h]; done) | (intro i; simp [World.frozen?, h])
end Go.Proofs.Ytomflpkokcldeaa
