/-
  A parser and its tokens in memory; what a step may change.
  A parser, its tokens and what a step leaves of them.
  What appending leaves of a parser and its tokens.
  The parser's small methods, walked.
  The parser's method inter, walked.
  The parser's method text, walked.
  The accumulator's method Byte, walked.
  What a new token leaves of a parser and its tokens.
  The parser's method plain, walked.
-/
import Derived.Deep.RegionLaw
import Derived.Test.YtnnhaenmoifplaaDoorZSrc
import Derived.Test.YtnnhaenmoifplaaDoorZPw
import Derived.Test.YtnnhaenmoifplaaDoorZPaN
namespace Go.Proofs.YtnnhaenmoifplaaDoor
set_option linter.unusedSimpArgs false
set_option linter.unusedVariables false
set_option linter.unusedSectionVars false
open Go.RowKit
/-- The least block that the rows of a parser and its tokens may lie in. -/
class Bs where
  b : Nat
variable [Bs]

/-- .. and what may change from now on is what might have, or new. -/
structure Stp (lv : List Nat) (w : World) (lv' : List Nat) (w' : World) : Prop where
  upd : Upd lv w w'
  new : ∀ k ∈ lv', k ∈ lv ∨ w.heap.size ≤ k

theorem Stp.refl (lv : List Nat) (w : World) : Stp lv w lv w := ⟨.refl _ _, fun _ h => .inl h⟩
theorem Stp.trans {a b c : List Nat} {u v w : World} (h : Stp a u b v) (k : Stp b v c w) : Stp a u c w := by
  refine ⟨⟨k.upd.os.trans h.upd.os, k.upd.tape.trans h.upd.tape, k.upd.output.trans h.upd.output, Nat.le_trans h.upd.size k.upd.size, fun i hi hn => ?_⟩, fun i hi => ?_⟩
  · rw [k.upd.block i (Nat.lt_of_lt_of_le hi h.upd.size) (fun hb => by rcases h.new i hb with h' | h'; exact hn h'; omega)]
    exact h.upd.block i hi hn
  · rcases k.new i hi with h' | h'
    · exact h.new i h'
    · exact .inr (Nat.le_trans h.upd.size h')

/-- The cells of a parser. -/
def pcells (s : PS) (iv dv av : Value) : Array Value :=
  #[.int .i64 s.phase, .int .i64 s.kind, .int .u8 s.code, .int .u8 s.mark, .slice none 0 0, .string ⟨#[]⟩, dv, iv, av, .int .i64 s.now, .bool s.begun, .bool s.first, .bool s.void]

/-- A parser in a block of its own, with the rows that it owns; all of them may change, no two are one. -/
structure PMem (lv : List Nat) (w : World) (p : Nat) (s : PS) (iv dv av : Value) : Prop where
  blk : w.heap[p]? = some (.cells (pcells s iv dv av) 38 (0, 0))
  inters : w.ownsRow Bs.b 5 1 iv s.inters.length (bcells s.inters)
  data : w.ownsRow Bs.b 5 1 dv s.data.length (bcells s.data)
  done : w.ownsRow Bs.b 3 1 av s.done.length (icells s.done)
  pIn : p ∈ lv
  iIn : ∀ k, iv.ownBlock = some k → k ∈ lv
  dIn : ∀ k, dv.ownBlock = some k → k ∈ lv
  aIn : ∀ k, av.ownBlock = some k → k ∈ lv
  apart : ∀ k, iv.ownBlock = some k → dv.ownBlock ≠ some k
  bs : Bs.b ≤ w.heap.size

/-- A token's numbers and data in memory. -/
structure TMem (lv : List Nat) (w : World) (t : Tok) (pv dv : Value) : Prop where
  params : HasRow w 3 pv t.params.length (icells t.params)
  data : HasRow w 5 dv t.data.length (bcells t.data)
  pOut : ∀ k, pv.ownBlock = some k → k ∉ lv
  dOut : ∀ k, dv.ownBlock = some k → k ∉ lv
  pNew : ∀ k, pv.ownBlock = some k → Bs.b ≤ k
  dNew : ∀ k, dv.ownBlock = some k → Bs.b ≤ k

def tcells (t : Tok) (q : Value × Value) : List Value := [.int .i64 t.kind, .int .u8 t.code, .int .u8 t.mark, q.1, .string (strOf t.inters), q.2]
def tsCells : List Tok → List (Value × Value) → List Value
  | t :: ts, q :: qs => tcells t q ++ tsCells ts qs
  | _, _ => []

/-- Tokens in a row that is appended to. -/
structure OMem (lv : List Nat) (w : World) (o : Nat) (ts : List Tok) (ov : Value) (qs : List (Value × Value)) : Prop where
  blk : w.heap[o]? = some (.cells #[ov] 45 (0, 0))
  row : w.ownsRow Bs.b 34 6 ov ts.length (tsCells ts qs)
  len : qs.length = ts.length
  toks : ∀ (i : Nat) (t : Tok) (q : Value × Value), ts[i]? = some t → qs[i]? = some q → TMem lv w t q.1 q.2
  oIn : o ∈ lv
  rIn : ∀ k, ov.ownBlock = some k → k ∈ lv
  bs : Bs.b ≤ w.heap.size

theorem TMem.upd {lv lv2 lv' : List Nat} {w w' : World} {t : Tok} {pv dv : Value} (h : TMem lv w t pv dv) (hu : Upd lv2 w w') (h2 : ∀ k, k < w.heap.size → k ∈ lv2 → k ∈ lv) (h3 : ∀ k, k < w.heap.size → k ∈ lv' → k ∈ lv) : TMem lv' w' t pv dv :=
  ⟨h.params.same fun k hk => hu.block k (h.params.blk hk) fun x => h.pOut k hk (h2 k (h.params.blk hk) x),
   h.data.same fun k hk => hu.block k (h.data.blk hk) fun x => h.dOut k hk (h2 k (h.data.blk hk) x),
   fun k hk x => h.pOut k hk (h3 k (h.params.blk hk) x), fun k hk x => h.dOut k hk (h3 k (h.data.blk hk) x), h.pNew, h.dNew⟩

/-- A whole row is stored into a block of its own size: only that block changes. -/
theorem wpList_store_only {P : Program} {ops : Array Oper} {rest : List Oper} {o : Oper} {a : Act} {w : World} {Q : Exit → Act → World → Prop}
    (hgd : o.guard = none) (ty : TypeId) (x y : Operand) (ho : o.op = .store ty x y) (g : Nat) (cells : Array Value)
    (hx : a.eval x = .pointer (some ⟨g, 0, none⟩)) (hy : a.eval y = .agg cells) (t : TypeId) (old : Array Value) (hg : w.heap[g]? = some (.cells old t (0, 0)))
    (hi : (P.info? ty).map (·.size) = some cells.size) (hold : old.size = cells.size) (h1 : cells.all (·.oneCell') = true)
    (h : ∀ w', w'.heap[g]? = some (.cells cells t (0, 0)) → Upd [g] w w' → w'.heap.size = w.heap.size → wpList P ops Q rest (a.put o.dst undef) w') : wpList P ops Q (o :: rest) a w :=
  wpList_plain hgd fun _ hK => wp_store_row ty x y ho g cells hx hy t old hg hi hold h1
    (hK _ _ (h _ (setRow_heap w g old cells t _ hg) ⟨rfl, rfl, rfl, by simp [World.setRow], fun k _ hk => setRow_other w g k cells (by simpa using hk)⟩ (by simp)))

theorem cells13 {w : World} {g : Nat} {v0 v1 v2 v3 v4 v5 v6 v7 v8 v9 v10 v11 v12 : Value} {t : TypeId} (h : w.heap[g]? = some (.cells #[v0, v1, v2, v3, v4, v5, v6, v7, v8, v9, v10, v11, v12] t (0, 0))) :
    w.cell? ⟨g, 0, none⟩ = some v0 ∧ w.cell? ⟨g, 1, none⟩ = some v1 ∧ w.cell? ⟨g, 2, none⟩ = some v2 ∧ w.cell? ⟨g, 3, none⟩ = some v3 ∧ w.cell? ⟨g, 4, none⟩ = some v4 ∧ w.cell? ⟨g, 5, none⟩ = some v5 ∧ w.cell? ⟨g, 6, none⟩ = some v6 ∧
    w.cell? ⟨g, 7, none⟩ = some v7 ∧ w.cell? ⟨g, 8, none⟩ = some v8 ∧ w.cell? ⟨g, 9, none⟩ = some v9 ∧ w.cell? ⟨g, 10, none⟩ = some v10 ∧ w.cell? ⟨g, 11, none⟩ = some v11 ∧ w.cell? ⟨g, 12, none⟩ = some v12 ∧ ∀ i, w.frozen? ⟨g, i, none⟩ = false := by
  refine ⟨?_, ?_, ?_, ?_, ?_, ?_, ?_, ?_, ?_, ?_, ?_, ?_, ?_, ?_⟩
  all_goals first | (simp [World.cell?, h]; done) | (intro i; simp [World.frozen?, h])
end Go.Proofs.YtnnhaenmoifplaaDoor

namespace Go.Proofs.YtnnhaenmoifplaaDoor
set_option linter.unusedSimpArgs false
set_option linter.unusedVariables false
set_option linter.unusedSectionVars false
open Go.RowKit
variable [Bs]

structure PS.ok (s : PS) : Prop where
  phase : 0 ≤ s.phase ∧ s.phase ≤ 4
  kind : 0 ≤ s.kind ∧ s.kind ≤ 9
  code : 0 ≤ s.code ∧ s.code < 256
  mark : 0 ≤ s.mark ∧ s.mark < 256
  inters : s.inters.length ≤ 3
  data : s.data.length ≤ 4096
  done : s.done.length ≤ 30
  now : 0 ≤ s.now ∧ s.now ≤ 65535

/-- A parser and the tokens said, in memory. -/
structure St (lv : List Nat) (w : World) (p : Nat) (s : PS) (iv dv av : Value) (o : Nat) (ts : List Tok) (ov : Value) (qs : List (Value × Value)) : Prop where
  pm : PMem lv w p s iv dv av
  om : OMem lv w o ts ov qs
def SS (lv : List Nat) (w : World) (p : Nat) (s : PS) (o : Nat) (ts : List Tok) : Prop := ∃ iv dv av ov qs, St lv w p s iv dv av o ts ov qs

theorem row_type {w : World} {B B' e e' size size' n n' : Nat} {v v' : Value} {xs xs' : List Value} (h : w.ownsRow B e size v n xs) (h' : w.ownsRow B' e' size' v' n' xs') (hne : e ≠ e') {k : Nat} (hk : v.ownBlock = some k) : v'.ownBlock ≠ some k := by
  intro hk'
  rcases h.2 with ⟨rfl, _⟩ | ⟨g, cap, cur, rfl, _, hh, _⟩
  · cases hk
  rcases h'.2 with ⟨rfl, _⟩ | ⟨g', cap', cur', rfl, _, hh', _⟩
  · cases hk'
  simp only [Value.ownBlock, Option.some.injEq] at hk hk'
  subst hk; subst hk'
  rw [hh] at hh'
  simp at hh'
  exact hne hh'.2
theorem row_ne {w : World} {B e t size n j : Nat} {v : Value} {xs : List Value} {c : Array Value} (h : w.ownsRow B e size v n xs) (hj : w.heap[j]? = some (.cells c t (0, 0))) (hne : e ≠ t) : v.ownBlock ≠ some j := by
  intro hk
  rcases h.2 with ⟨rfl, _⟩ | ⟨g, cap, cur, rfl, _, hh, _⟩
  · cases hk
  simp only [Value.ownBlock, Option.some.injEq] at hk
  subst hk
  rw [hh] at hj
  simp at hj
  exact hne hj.2
theorem blk_lt {w : World} {j : Nat} {b} (h : w.heap[j]? = some b) : j < w.heap.size := (Array.getElem?_eq_some_iff.1 h).1

variable {lv lv' K : List Nat} {w w' : World} {p o : Nat} {s s' : PS} {iv dv av ov : Value} {ts : List Tok} {qs : List (Value × Value)}

theorem OMem.upd (h : OMem lv w o ts ov qs) (hu : Upd K w w') (ho : o ∉ K) (hr : ∀ k, ov.ownBlock = some k → k ∉ K) (hK : ∀ k, k < w.heap.size → k ∈ K → k ∈ lv) (h3 : ∀ k, k < w.heap.size → k ∈ lv' → k ∈ lv)
    (ho' : o ∈ lv') (hr' : ∀ k, ov.ownBlock = some k → k ∈ lv') : OMem lv' w' o ts ov qs :=
  ⟨(hu.block o (blk_lt h.blk) ho).trans h.blk, ownsRow_same h.row fun k hk => hu.block k (ownsRow_blk h.row hk) (hr k hk), h.len, fun i t q ht hq => (h.toks i t q ht hq).upd hu hK h3, ho', hr', Nat.le_trans h.bs hu.size⟩

theorem PMem.keep (h : PMem lv w p s iv dv av) (hu : Upd K w w') (hp : w'.heap[p]? = some (.cells (pcells s' iv dv av) 38 (0, 0)))
    (hi : s'.inters = s.inters) (hd : s'.data = s.data) (ha : s'.done = s.done)
    (h1 : ∀ k, iv.ownBlock = some k → k ∉ K) (h2 : ∀ k, dv.ownBlock = some k → k ∉ K) (h3 : ∀ k, av.ownBlock = some k → k ∉ K) : PMem lv w' p s' iv dv av :=
  ⟨hp, by rw [hi]; exact ownsRow_same h.inters fun k hk => hu.block k (ownsRow_blk h.inters hk) (h1 k hk), by rw [hd]; exact ownsRow_same h.data fun k hk => hu.block k (ownsRow_blk h.data hk) (h2 k hk),
   by rw [ha]; exact ownsRow_same h.done fun k hk => hu.block k (ownsRow_blk h.done hk) (h3 k hk), h.pIn, h.iIn, h.dIn, h.aIn, h.apart, Nat.le_trans h.bs hu.size⟩

theorem St.po (h : St lv w p s iv dv av o ts ov qs) : p ≠ o := by
  intro e
  have := h.pm.blk
  rw [e, h.om.blk] at this
  simp at this
theorem St.op (h : St lv w p s iv dv av o ts ov qs) : o ≠ p := fun e => h.po e.symm
theorem St.ip (h : St lv w p s iv dv av o ts ov qs) : iv.ownBlock ≠ some p := row_ne h.pm.inters h.pm.blk (by decide)
theorem St.dp (h : St lv w p s iv dv av o ts ov qs) : dv.ownBlock ≠ some p := row_ne h.pm.data h.pm.blk (by decide)
theorem St.ap (h : St lv w p s iv dv av o ts ov qs) : av.ownBlock ≠ some p := row_ne h.pm.done h.pm.blk (by decide)
theorem St.rp (h : St lv w p s iv dv av o ts ov qs) : ov.ownBlock ≠ some p := row_ne h.om.row h.pm.blk (by decide)
theorem St.io (h : St lv w p s iv dv av o ts ov qs) : iv.ownBlock ≠ some o := row_ne h.pm.inters h.om.blk (by decide)
theorem St.do_ (h : St lv w p s iv dv av o ts ov qs) : dv.ownBlock ≠ some o := row_ne h.pm.data h.om.blk (by decide)
theorem St.ao (h : St lv w p s iv dv av o ts ov qs) : av.ownBlock ≠ some o := row_ne h.pm.done h.om.blk (by decide)
theorem St.ro (h : St lv w p s iv dv av o ts ov qs) : ov.ownBlock ≠ some o := row_ne h.om.row h.om.blk (by decide)

/-- The world has only grown. -/
theorem St.gr (h : St lv w p s iv dv av o ts ov qs) (hg : Gr w w') : St lv w' p s iv dv av o ts ov qs :=
  ⟨h.pm.keep (Upd.of_gr (lv := []) hg) ((hg.block p (blk_lt h.pm.blk)).trans h.pm.blk) rfl rfl rfl (by simp) (by simp) (by simp), h.om.upd (Upd.of_gr (lv := []) hg) (by simp) (by simp) (by simp) (fun _ _ h => h) h.om.oIn h.om.rIn⟩
/-- Numbers and flags of the parser are others; its rows are not. -/
theorem St.cells (h : St lv w p s iv dv av o ts ov qs) (hu : Upd [p] w w') (hp : w'.heap[p]? = some (.cells (pcells s' iv dv av) 38 (0, 0))) (hi : s'.inters = s.inters) (hd : s'.data = s.data) (ha : s'.done = s.done) :
    St lv w' p s' iv dv av o ts ov qs :=
  ⟨h.pm.keep hu hp hi hd ha (fun k hk => by simp; rintro rfl; exact h.ip hk) (fun k hk => by simp; rintro rfl; exact h.dp hk) (fun k hk => by simp; rintro rfl; exact h.ap hk),
   h.om.upd hu (by simp; exact h.op) (fun k hk => by simp; rintro rfl; exact h.rp hk) (fun k _ hk => by simp at hk; subst hk; exact h.pm.pIn) (fun _ _ h => h) h.om.oIn h.om.rIn⟩
/-- The parser is one without rows. -/
theorem St.fresh (h : St lv w p s iv dv av o ts ov qs) (hu : Upd [p] w w') (hp : w'.heap[p]? = some (.cells (pcells s' (.slice none 0 0) (.slice none 0 0) (.slice none 0 0)) 38 (0, 0))) (hi : s'.inters = []) (hd : s'.data = []) (ha : s'.done = []) :
    St lv w' p s' (.slice none 0 0) (.slice none 0 0) (.slice none 0 0) o ts ov qs :=
  ⟨⟨hp, by rw [hi]; exact World.ownsRow_nil _ _ _ _, by rw [hd]; exact World.ownsRow_nil _ _ _ _, by rw [ha]; exact World.ownsRow_nil _ _ _ _, h.pm.pIn, by simp [Value.ownBlock], by simp [Value.ownBlock], by simp [Value.ownBlock], by simp [Value.ownBlock], Nat.le_trans h.pm.bs hu.size⟩,
   h.om.upd hu (by simp; exact h.op) (fun k hk => by simp; rintro rfl; exact h.rp hk) (fun k _ hk => by simp at hk; subst hk; exact h.pm.pIn) (fun _ _ h => h) h.om.oIn h.om.rIn⟩
theorem Stp.one (hp : p ∈ lv) (hu : Upd [p] w w') : Stp lv w lv w' := ⟨⟨hu.os, hu.tape, hu.output, hu.size, fun k hk hn => hu.block k hk (by simp; rintro rfl; exact hn hp)⟩, fun _ h => .inl h⟩
theorem Stp.gr (hg : Gr w w') : Stp lv w lv w' := ⟨.of_gr hg, fun _ h => .inl h⟩
end Go.Proofs.YtnnhaenmoifplaaDoor

namespace Go.Proofs.YtnnhaenmoifplaaDoor
set_option linter.unusedSimpArgs false
set_option linter.unusedVariables false
set_option linter.unusedSectionVars false
section
open Go.RowKit
variable [Bs]

variable {lv lv' K : List Nat} {w w1 w2 : World} {p o : Nat} {s s' : PS} {iv dv av ov : Value} {ts : List Tok} {qs : List (Value × Value)}

/-- Behind a growing and a store into the parser: the changed blocks. -/
theorem Grew.upd (h : Grew w w1 ov iv p) (_hp : ov.ownBlock ≠ some o) (_ho : o < w.heap.size) (i : Nat) (u : Value) (hm : ∀ k, ov.ownBlock = some k → k ∈ lv) (hol : o ∈ lv) :
    Stp lv w (p :: lv) (w1.setCell ⟨o, i, none⟩ u) ∧ Upd (o :: ov.ownBlock.toList) w (w1.setCell ⟨o, i, none⟩ u) := by
  have hu : Upd (o :: ov.ownBlock.toList) w (w1.setCell ⟨o, i, none⟩ u) := by
    refine ⟨?_, ?_, ?_, ?_, fun k hk hn => ?_⟩
    · rw [← h.grown.os]; simp [World.setCell]
    · rw [← h.grown.tape]; simp [World.setCell]
    · rw [← h.grown.output]; simp [World.setCell]
    · have := h.grown.size; simpa using this
    · simp at hn
      rw [Below.heap_setCell _ _ _ _ (fun e => hn.1 e)]
      exact h.grown.block k hk fun e => hn.2 e.symm
  refine ⟨⟨⟨hu.os, hu.tape, hu.output, hu.size, fun k hk hn => hu.block k hk ?_⟩, ?_⟩, hu⟩
  · simp
    exact ⟨fun e => hn (e ▸ hol), fun e => hn (hm k e)⟩
  · intro k hk
    rcases List.mem_cons.1 hk with rfl | hk
    · rcases h.at_ with e | e
      · exact .inl (hm _ e)
      · exact .inr (by omega)
    · exact .inl hk

/-- The other rows. -/
theorem Grew.far {V x : Value} {g B e size n : Nat} {xs : List Value} (h : Grew w w1 ov V g) (hx : w.ownsRow B e size x n xs) (h1 : ∀ k, x.ownBlock = some k → ov.ownBlock ≠ some k) {k : Nat} (hk : x.ownBlock = some k) : k ≠ g := by
  have := ownsRow_blk hx hk
  rcases h.at_ with q | q
  · rintro rfl; exact h1 _ hk q
  · omega

theorem St.pushI {V : Value} {g : Nat} {c : Int} (h : St lv w p s iv dv av o ts ov qs) (hg : Grew w w1 iv V g) (hV : w1.ownsRow Bs.b 5 1 V (s.inters.length + 1) (bcells (s.inters ++ [c]))) :
    St (g :: lv) (w1.setCell ⟨p, 7, none⟩ V) p { s with inters := s.inters ++ [c] } V dv av o ts ov qs ∧ Stp lv w (g :: lv) (w1.setCell ⟨p, 7, none⟩ V) := by
  obtain ⟨hs, hu⟩ := hg.upd h.ip (blk_lt h.pm.blk) 7 V h.pm.iIn h.pm.pIn
  have gp : g ≠ p := (hg.ne (blk_lt h.pm.blk) h.ip).symm
  have far : ∀ {x : Value} {e size n : Nat} {xs : List Value}, w.ownsRow Bs.b e size x n xs → x.ownBlock ≠ some p → (∀ k, x.ownBlock = some k → iv.ownBlock ≠ some k) → (w1.setCell ⟨p, 7, none⟩ V).ownsRow Bs.b e size x n xs := by
    intro x e size n xs hx hxp hxi
    exact ownsRow_same hx fun k hk => hu.block k (ownsRow_blk hx hk) (by simp; exact ⟨fun e => hxp (e ▸ hk), hxi k hk⟩)
  have hb := blk_set ((hg.new (blk_lt h.pm.blk) h.ip).trans h.pm.blk) 7 V
  refine ⟨⟨⟨hb, ?_, far h.pm.data h.dp fun k hk e => h.pm.apart k e hk, far h.pm.done h.ap fun k hk => row_type h.pm.done h.pm.inters (by decide) hk, by simp [h.pm.pIn], ?_, fun k hk => by simp [h.pm.dIn k hk], fun k hk => by simp [h.pm.aIn k hk], ?_, Nat.le_trans h.pm.bs hs.upd.size⟩, ?_⟩, hs⟩
  · have : (s.inters ++ [c]).length = s.inters.length + 1 := by simp
    rw [this]
    exact ownsRow_same hV fun k hk => by
      rw [hg.own] at hk; injection hk with hk; subst hk
      rw [Below.heap_setCell _ _ _ _ gp]
  · intro k hk; rw [hg.own] at hk; injection hk with hk; simp [hk]
  · intro k hk hk'
    rw [hg.own] at hk; injection hk with hk
    exact hg.far h.pm.data (fun k hk e => h.pm.apart k e hk) hk' hk.symm
  · refine h.om.upd hu ?_ ?_ ?_ ?_ (by simp [h.om.oIn]) fun k hk => by simp [h.om.rIn k hk]
    · simp; exact ⟨h.op, h.io⟩
    · intro k hk; simp; exact ⟨fun e => h.rp (e ▸ hk), row_type h.om.row h.pm.inters (by decide) hk⟩
    · intro k _ hk
      simp at hk
      rcases hk with rfl | hk
      · exact h.pm.pIn
      · exact h.pm.iIn k hk
    · intro k hk hl
      rcases List.mem_cons.1 hl with rfl | hl
      · rcases hg.at_ with e | e
        · exact h.pm.iIn _ e
        · omega
      · exact hl
theorem St.pushD {V : Value} {g : Nat} {c : Int} (h : St lv w p s iv dv av o ts ov qs) (hg : Grew w w1 dv V g) (hV : w1.ownsRow Bs.b 5 1 V (s.data.length + 1) (bcells (s.data ++ [c]))) :
    St (g :: lv) (w1.setCell ⟨p, 6, none⟩ V) p { s with data := s.data ++ [c] } iv V av o ts ov qs ∧ Stp lv w (g :: lv) (w1.setCell ⟨p, 6, none⟩ V) := by
  obtain ⟨hs, hu⟩ := hg.upd h.dp (blk_lt h.pm.blk) 6 V h.pm.dIn h.pm.pIn
  have gp : g ≠ p := (hg.ne (blk_lt h.pm.blk) h.dp).symm
  have far : ∀ {x : Value} {e size n : Nat} {xs : List Value}, w.ownsRow Bs.b e size x n xs → x.ownBlock ≠ some p → (∀ k, x.ownBlock = some k → dv.ownBlock ≠ some k) → (w1.setCell ⟨p, 6, none⟩ V).ownsRow Bs.b e size x n xs := by
    intro x e size n xs hx hxp hxi
    exact ownsRow_same hx fun k hk => hu.block k (ownsRow_blk hx hk) (by simp; exact ⟨fun e => hxp (e ▸ hk), hxi k hk⟩)
  have hb := blk_set ((hg.new (blk_lt h.pm.blk) h.dp).trans h.pm.blk) 6 V
  refine ⟨⟨⟨hb, far h.pm.inters h.ip fun k hk => h.pm.apart k hk, ?_, far h.pm.done h.ap fun k hk => row_type h.pm.done h.pm.data (by decide) hk, by simp [h.pm.pIn], fun k hk => by simp [h.pm.iIn k hk], ?_, fun k hk => by simp [h.pm.aIn k hk], ?_, Nat.le_trans h.pm.bs hs.upd.size⟩, ?_⟩, hs⟩
  · have : (s.data ++ [c]).length = s.data.length + 1 := by simp
    rw [this]
    exact ownsRow_same hV fun k hk => by
      rw [hg.own] at hk; injection hk with hk; subst hk
      rw [Below.heap_setCell _ _ _ _ gp]
  · intro k hk; rw [hg.own] at hk; injection hk with hk; simp [hk]
  · intro k hk hk'
    rw [hg.own] at hk'; injection hk' with hk'
    exact hg.far h.pm.inters (fun k hk => h.pm.apart k hk) hk hk'.symm
  · refine h.om.upd hu ?_ ?_ ?_ ?_ (by simp [h.om.oIn]) fun k hk => by simp [h.om.rIn k hk]
    · simp; exact ⟨h.op, h.do_⟩
    · intro k hk; simp; exact ⟨fun e => h.rp (e ▸ hk), row_type h.om.row h.pm.data (by decide) hk⟩
    · intro k _ hk
      simp at hk
      rcases hk with rfl | hk
      · exact h.pm.pIn
      · exact h.pm.dIn k hk
    · intro k hk hl
      rcases List.mem_cons.1 hl with rfl | hl
      · rcases hg.at_ with e | e
        · exact h.pm.dIn _ e
        · omega
      · exact hl
theorem St.pushA {V : Value} {g : Nat} {c : Int} (h : St lv w p s iv dv av o ts ov qs) (hg : Grew w w1 av V g) (hV : w1.ownsRow Bs.b 3 1 V (s.done.length + 1) (icells (s.done ++ [c]))) :
    St (g :: lv) (w1.setCell ⟨p, 8, none⟩ V) p { s with done := s.done ++ [c] } iv dv V o ts ov qs ∧ Stp lv w (g :: lv) (w1.setCell ⟨p, 8, none⟩ V) := by
  obtain ⟨hs, hu⟩ := hg.upd h.ap (blk_lt h.pm.blk) 8 V h.pm.aIn h.pm.pIn
  have gp : g ≠ p := (hg.ne (blk_lt h.pm.blk) h.ap).symm
  have far : ∀ {x : Value} {e size n : Nat} {xs : List Value}, w.ownsRow Bs.b e size x n xs → x.ownBlock ≠ some p → (∀ k, x.ownBlock = some k → av.ownBlock ≠ some k) → (w1.setCell ⟨p, 8, none⟩ V).ownsRow Bs.b e size x n xs := by
    intro x e size n xs hx hxp hxi
    exact ownsRow_same hx fun k hk => hu.block k (ownsRow_blk hx hk) (by simp; exact ⟨fun e => hxp (e ▸ hk), hxi k hk⟩)
  have hb := blk_set ((hg.new (blk_lt h.pm.blk) h.ap).trans h.pm.blk) 8 V
  refine ⟨⟨⟨hb, far h.pm.inters h.ip fun k hk => row_type h.pm.inters h.pm.done (by decide) hk, far h.pm.data h.dp fun k hk => row_type h.pm.data h.pm.done (by decide) hk, ?_, by simp [h.pm.pIn], fun k hk => by simp [h.pm.iIn k hk], fun k hk => by simp [h.pm.dIn k hk], ?_, h.pm.apart, Nat.le_trans h.pm.bs hs.upd.size⟩, ?_⟩, hs⟩
  · have : (s.done ++ [c]).length = s.done.length + 1 := by simp
    rw [this]
    exact ownsRow_same hV fun k hk => by
      rw [hg.own] at hk; injection hk with hk; subst hk
      rw [Below.heap_setCell _ _ _ _ gp]
  · intro k hk; rw [hg.own] at hk; injection hk with hk; simp [hk]
  · refine h.om.upd hu ?_ ?_ ?_ ?_ (by simp [h.om.oIn]) fun k hk => by simp [h.om.rIn k hk]
    · simp; exact ⟨h.op, h.ao⟩
    · intro k hk; simp; exact ⟨fun e => h.rp (e ▸ hk), row_type h.om.row h.pm.done (by decide) hk⟩
    · intro k _ hk
      simp at hk
      rcases hk with rfl | hk
      · exact h.pm.pIn
      · exact h.pm.aIn k hk
    · intro k hk hl
      rcases List.mem_cons.1 hl with rfl | hl
      · rcases hg.at_ with e | e
        · exact h.pm.aIn _ e
        · omega
      · exact hl
end
section
open Go.RowKit
variable [Bs]

variable {lv : List Nat} {w : World} {p o : Nat} {s : PS} {ts : List Tok}

set_option maxRecDepth 100000 in
set_option maxHeartbeats 400000 in
theorem reset_walk (p : Nat) (cs : Array Value) (hcs : cs.size = 13) (w : World) (h : w.heap[p]? = some (.cells cs 38 (0, 0))) :
    Calls Tryd.prog 31 #[.pointer (some ⟨p, 0, none⟩)] w fun e w' => e = .returned (.tuple #[]) ∧
      (w'.heap[p]? = some (.cells (pcells PS.init (.slice none 0 0) (.slice none 0 0) (.slice none 0 0)) 38 (0, 0)) ∧ Upd [p] w w' ∧ w'.heap.size = w.heap.size) := by
  go_enter Tryd.func31, Tryd.ntmps31
  go_wp2_with (first
    | (refine wpList_store_only rfl 38 _ _ rfl p (pcells PS.init (.slice none 0 0) (.slice none 0 0) (.slice none 0 0)) rfl rfl 38 cs h (by kernel_rfl) hcs (by kernel_rfl) ?_; intro w1 hh hb hs))
  go_end0
  exact ⟨rfl, hh, hb, hs⟩

theorem reset_SS (h : SS lv w p s o ts) : Calls Tryd.prog 31 #[.pointer (some ⟨p, 0, none⟩)] w fun e w' => e = .returned (.tuple #[]) ∧ Stp lv w lv w' ∧ SS lv w' p PS.init o ts := by
  obtain ⟨iv, dv, av, ov, qs, h⟩ := h
  refine (reset_walk p _ rfl w h.pm.blk).mono ?_
  rintro e w' ⟨rfl, hh, hu, _⟩
  exact ⟨rfl, .one h.pm.pIn hu, _, _, _, _, _, h.fresh hu hh rfl rfl rfl⟩

def bcell (at_ kind : Int) : Array Value := pcells (PS.begin_ at_ kind) (.slice none 0 0) (.slice none 0 0) (.slice none 0 0)
set_option maxRecDepth 100000 in
set_option maxHeartbeats 400000 in
theorem begin_walk (p : Nat) (at_ kind : Int) (cs : Array Value) (hcs : cs.size = 13) (w : World) (h : w.heap[p]? = some (.cells cs 38 (0, 0))) :
    Calls Tryd.prog 30 #[.pointer (some ⟨p, 0, none⟩), .int .i64 at_, .int .i64 kind] w fun e w' => e = .returned (.tuple #[]) ∧
      (w'.heap[p]? = some (.cells (bcell at_ kind) 38 (0, 0)) ∧ Upd [p] w w' ∧ w'.heap.size = w.heap.size) := by
  go_enter Tryd.func30, Tryd.ntmps30
  go_wp2_with (first
    | (refine wpList_store_only rfl 38 _ _ rfl p (bcell at_ kind) rfl rfl 38 cs h (by kernel_rfl) hcs (by kernel_rfl) ?_; intro w1 hh hb hs))
  go_end0
  exact ⟨rfl, hh, hb, hs⟩
theorem begin_SS (at_ kind : Int) (h : SS lv w p s o ts) : Calls Tryd.prog 30 #[.pointer (some ⟨p, 0, none⟩), .int .i64 at_, .int .i64 kind] w fun e w' => e = .returned (.tuple #[]) ∧ Stp lv w lv w' ∧ SS lv w' p (PS.begin_ at_ kind) o ts := by
  obtain ⟨iv, dv, av, ov, qs, h⟩ := h
  refine (begin_walk p at_ kind _ rfl w h.pm.blk).mono ?_
  rintro e w' ⟨rfl, hh, hu, _⟩
  exact ⟨rfl, .one h.pm.pIn hu, _, _, _, _, _, h.fresh hu hh rfl rfl rfl⟩
end
section
open Go.RowKit
variable [Bs]

variable {lv : List Nat} {w : World} {p o : Nat} {s : PS} {ts : List Tok}

theorem u8_info : (Tryd.prog.info? 5).map (fun i => (i.zero, i.size, i.bytes)) = some (some (.int .u8 0), 1, 1) := by kernel_rfl

theorem St.set {iv dv av ov : Value} {qs : List (Value × Value)} {s' : PS} (h : St lv w p s iv dv av o ts ov qs) (i : Nat) (u : Value) (hcs : (pcells s iv dv av).setIfInBounds i u = pcells s' iv dv av)
    (hi : s'.inters = s.inters) (hd : s'.data = s.data) (ha : s'.done = s.done) : St lv (w.setCell ⟨p, i, none⟩ u) p s' iv dv av o ts ov qs ∧ Upd [p] w (w.setCell ⟨p, i, none⟩ u) := by
  have hu : Upd [p] w (w.setCell ⟨p, i, none⟩ u) := by
    refine ⟨by simp [World.setCell], by simp [World.setCell], by simp [World.setCell], by simp, fun k _ hn => ?_⟩
    rw [Below.heap_setCell _ _ _ _ (by simpa using hn)]
  exact ⟨h.cells hu (by rw [blk_set h.pm.blk, hcs]) hi hd ha, hu⟩
theorem Upd.trans1 {a b c : World} {K : List Nat} (h : Upd K a b) (k : Upd K b c) : Upd K a c :=
  ⟨k.os.trans h.os, k.tape.trans h.tape, k.output.trans h.output, Nat.le_trans h.size k.size, fun i hi hn => (k.block i (Nat.lt_of_lt_of_le hi h.size) hn).trans (h.block i hi hn)⟩

theorem int_info : (Tryd.prog.info? 3).map (fun i => (i.zero, i.size, i.bytes)) = some (some (.int .i64 0), 1, 8) := by kernel_rfl

theorem wpList_pushI {iv dv av ov : Value} {qs : List (Value × Value)} {ops : Array Oper} {rest : List Oper} {u : Oper} {a : Act} {Q : Exit → Act → World → Prop} (hgd : u.guard = none) (x y : Operand) (t : TypeId)
    (hu : u.op = .call { callee := .builtin .append, args := #[x, y], argTypes := #[t, t] }) (ht : Tryd.prog.underlying t = some (.slice 5)) (h : St lv w p s iv dv av o ts ov qs) (c : Int) (b : Nat)
    (hx : a.eval x = iv) (hy : a.eval y = .slice (some ⟨b, 0, none⟩) 1 1) (hb : w.cell? ⟨b, 0, none⟩ = some (Value.int .u8 c)) (hn : s.inters.length ≤ 100000)
    (K : ∀ g cap w1, Grew w w1 iv (.slice (some ⟨g, 0, none⟩) (s.inters.length + 1) cap) g → w1.ownsRow Bs.b 5 1 (.slice (some ⟨g, 0, none⟩) (s.inters.length + 1) cap) (s.inters.length + 1) (bcells (s.inters ++ [c])) →
      w1.heap[p]? = some (.cells (pcells s iv dv av) 38 (0, 0)) → wpList Tryd.prog ops Q rest (a.put u.dst (.slice (some ⟨g, 0, none⟩) (s.inters.length + 1) cap)) w1) : wpList Tryd.prog ops Q (u :: rest) a w := by
  obtain ⟨i0, hi0, hz0, hz1, hz2⟩ := info_parts u8_info
  refine wpList_append_lies _ hgd x y t hu Bs.b 5 i0 _ 1 1 ht hi0 hz0 hz1 hz2 rfl (by omega) _ _ _ hx h.pm.inters ⟨b, 0, none⟩ 1 1 [Value.int .u8 c] hy rfl ?_ ?_ (by omega) ?_ ?_ h.pm.bs _ rfl ?_
  · intro j v hv
    have hj : j = 0 := by rcases j with _ | j <;> simp at hv <;> rfl
    subst hj
    simp at hv; subst hv
    simpa [Addr.add] using hb
  · intro v hv; simp at hv; subst hv; rfl
  · simp only [maxLen]; omega
  · omega
  · intro g cap w1 hown hgr hat hlt
    have hG : Grew w w1 iv (.slice (some ⟨g, 0, none⟩) (s.inters.length + 1) cap) g := ⟨hgr, hat, hlt, rfl⟩
    exact K g cap w1 hG (by simpa [bcells] using hown) ((hG.new (blk_lt h.pm.blk) h.ip).trans h.pm.blk)

theorem wpList_pushD {iv dv av ov : Value} {qs : List (Value × Value)} {ops : Array Oper} {rest : List Oper} {u : Oper} {a : Act} {Q : Exit → Act → World → Prop} (hgd : u.guard = none) (x y : Operand) (t : TypeId)
    (hu : u.op = .call { callee := .builtin .append, args := #[x, y], argTypes := #[t, t] }) (ht : Tryd.prog.underlying t = some (.slice 5)) (h : St lv w p s iv dv av o ts ov qs) (c : Int) (b : Nat)
    (hx : a.eval x = dv) (hy : a.eval y = .slice (some ⟨b, 0, none⟩) 1 1) (hb : w.cell? ⟨b, 0, none⟩ = some (Value.int .u8 c)) (hn : s.data.length ≤ 100000)
    (K : ∀ g cap w1, Grew w w1 dv (.slice (some ⟨g, 0, none⟩) (s.data.length + 1) cap) g → w1.ownsRow Bs.b 5 1 (.slice (some ⟨g, 0, none⟩) (s.data.length + 1) cap) (s.data.length + 1) (bcells (s.data ++ [c])) →
      w1.heap[p]? = some (.cells (pcells s iv dv av) 38 (0, 0)) → wpList Tryd.prog ops Q rest (a.put u.dst (.slice (some ⟨g, 0, none⟩) (s.data.length + 1) cap)) w1) : wpList Tryd.prog ops Q (u :: rest) a w := by
  obtain ⟨i0, hi0, hz0, hz1, hz2⟩ := info_parts u8_info
  refine wpList_append_lies _ hgd x y t hu Bs.b 5 i0 _ 1 1 ht hi0 hz0 hz1 hz2 rfl (by omega) _ _ _ hx h.pm.data ⟨b, 0, none⟩ 1 1 [Value.int .u8 c] hy rfl ?_ ?_ (by omega) ?_ ?_ h.pm.bs _ rfl ?_
  · intro j v hv
    have hj : j = 0 := by rcases j with _ | j <;> simp at hv <;> rfl
    subst hj
    simp at hv; subst hv
    simpa [Addr.add] using hb
  · intro v hv; simp at hv; subst hv; rfl
  · simp only [maxLen]; omega
  · omega
  · intro g cap w1 hown hgr hat hlt
    have hG : Grew w w1 dv (.slice (some ⟨g, 0, none⟩) (s.data.length + 1) cap) g := ⟨hgr, hat, hlt, rfl⟩
    exact K g cap w1 hG (by simpa [bcells] using hown) ((hG.new (blk_lt h.pm.blk) h.dp).trans h.pm.blk)

set_option maxRecDepth 100000 in
set_option maxHeartbeats 1000000 in
theorem inter_SS (c : Int) (hok : s.ok) (h : SS lv w p s o ts) : Calls Tryd.prog 44 #[.pointer (some ⟨p, 0, none⟩), .int .u8 c] w fun e w' => e = .returned (.tuple #[]) ∧ ∃ lv', Stp lv w lv' w' ∧ SS lv' w' p (interM s c) o ts := by
  obtain ⟨iv, dv, av, ov, qs, h⟩ := h
  obtain ⟨k0, k1, k2, k3, k4, k5, k6, k7, k8, k9, k10, k11, k12, kf⟩ := cells13 h.pm.blk
  obtain ⟨ia, ic, rfl⟩ := row_form h.pm.inters
  obtain ⟨h2, hu2⟩ := h.set (s' := { s with first := false }) 11 (.bool false) rfl rfl rfl rfl
  obtain ⟨h3, hu3⟩ := h2.set (s' := { s with first := false, void := decide (3 ≤ (s.inters.length : Int)) }) 12 (.bool (decide (3 ≤ (s.inters.length : Int)))) rfl rfl rfl rfl
  have h4 := h3.gr ((Gr.refl _).alloc (.cells #[.int .u8 c] 5))
  have hb4 : ((w.setCell ⟨p, 11, none⟩ (.bool false)).setCell ⟨p, 12, none⟩ (.bool (decide (3 ≤ (s.inters.length : Int)))) |>.alloc (.cells #[.int .u8 c] 5)).cell? ⟨w.heap.size, 0, none⟩ = some (.int .u8 c) := by
    have e : ((w.setCell ⟨p, 11, none⟩ (.bool false)).setCell ⟨p, 12, none⟩ (.bool (decide (3 ≤ (s.inters.length : Int))))).heap.size = w.heap.size := by simp
    have := heap_alloc_new ((w.setCell ⟨p, 11, none⟩ (.bool false)).setCell ⟨p, 12, none⟩ (.bool (decide (3 ≤ (s.inters.length : Int))))) (.cells #[.int .u8 c] 5)
    rw [e] at this
    exact (cells1 this).1
  have hn4 : s.inters.length ≤ 100000 := by have := hok.inters; omega
  go_enter Tryd.func44, Tryd.ntmps44
  go_wp2_with (first
    | (refine wpList_pushI rfl _ _ _ rfl Tryd.underlying32 h4 c w.heap.size rfl rfl hb4 hn4 ?_
       intro g cap w1 hG hown hb1
       obtain ⟨r0, r1, r2, r3, r4, r5, r6, r7, r8, r9, r10, r11, r12, rf⟩ := cells13 hb1))
  all_goals go_end0
  · rename_i hv
    obtain ⟨h3, hu3⟩ := h2.set (s' := { s with first := false, void := true }) 12 (.bool true) rfl rfl rfl rfl
    have e : interM s c = { s with first := false, void := true } := by simp [interM, hv]
    rw [e]
    exact ⟨rfl, lv, .one h.pm.pIn (hu2.trans1 hu3), _, _, _, _, _, h3⟩
  · rename_i hv hl
    obtain ⟨h5, hs5⟩ := h4.pushI (c := c) hG hown
    have hl' : ¬ 3 ≤ s.inters.length := by simp at hl; omega
    have e : interM s c = { s with first := false, void := decide (3 ≤ (s.inters.length : Int)), inters := s.inters ++ [c] } := by simp [interM, hv, hl']; omega
    rw [e]
    exact ⟨rfl, _, ((Stp.one h.pm.pIn (hu2.trans1 hu3)).trans (.gr ((Gr.refl _).alloc _))).trans hs5, _, _, _, _, _, h5⟩
  · rename_i hv hl
    have hl' : 3 ≤ s.inters.length := by simp at hl; omega
    have e : interM s c = { s with first := false, void := decide (3 ≤ (s.inters.length : Int)) } := by simp [interM, hv, hl']; omega
    rw [e]
    exact ⟨rfl, lv, .one h.pm.pIn (hu2.trans1 hu3), _, _, _, _, _, h3⟩
end
section
open Go.RowKit
variable [Bs]

variable {lv : List Nat} {w : World} {p o : Nat} {s : PS} {ts : List Tok}

theorem St.dropD {iv dv av ov : Value} {qs : List (Value × Value)} (h : St lv w p s iv dv av o ts ov qs) :
    St lv (w.setCell ⟨p, 6, none⟩ (.slice none 0 0)) p { s with data := [] } iv (.slice none 0 0) av o ts ov qs ∧ Upd [p] w (w.setCell ⟨p, 6, none⟩ (.slice none 0 0)) := by
  have hu : Upd [p] w (w.setCell ⟨p, 6, none⟩ (.slice none 0 0)) := by
    refine ⟨by simp [World.setCell], by simp [World.setCell], by simp [World.setCell], by simp, fun k _ hn => ?_⟩
    rw [Below.heap_setCell _ _ _ _ (by simpa using hn)]
  refine ⟨⟨⟨blk_set h.pm.blk 6 _, ownsRow_same h.pm.inters fun k hk => hu.block k (ownsRow_blk h.pm.inters hk) ?_, World.ownsRow_nil _ _ _ _, ownsRow_same h.pm.done fun k hk => hu.block k (ownsRow_blk h.pm.done hk) ?_, h.pm.pIn, h.pm.iIn, by simp [Value.ownBlock], h.pm.aIn, by simp [Value.ownBlock], Nat.le_trans h.pm.bs hu.size⟩,
    h.om.upd hu (by simp; exact h.op) (fun k hk => by simp; rintro rfl; exact h.rp hk) (fun k _ hk => by simp at hk; subst hk; exact h.pm.pIn) (fun _ _ h => h) h.om.oIn h.om.rIn⟩, hu⟩
  · simp; rintro rfl; exact h.ip hk
  · simp; rintro rfl; exact h.ap hk

set_option maxRecDepth 100000 in
set_option maxHeartbeats 1000000 in
theorem text_SS (c : Int) (u : Value) (hok : s.ok) (h : SS lv w p s o ts) : Calls Tryd.prog 36 #[.pointer (some ⟨p, 0, none⟩), .int .u8 c, u] w fun e w' => e = .returned (.tuple #[]) ∧ ∃ lv', Stp lv w lv' w' ∧ SS lv' w' p (textM s c) o ts := by
  obtain ⟨iv, dv, av, ov, qs, h⟩ := h
  obtain ⟨k0, k1, k2, k3, k4, k5, k6, k7, k8, k9, k10, k11, k12, kf⟩ := cells13 h.pm.blk
  obtain ⟨ia, ic, rfl⟩ := row_form h.pm.data
  obtain ⟨h3, hu3⟩ := h.set (s' := { s with void := decide (4096 ≤ (s.data.length : Int)) }) 12 (.bool (decide (4096 ≤ (s.data.length : Int)))) rfl rfl rfl rfl
  have h4 := h3.gr ((Gr.refl _).alloc (.cells #[.int .u8 c] 5))
  have hb4 : (w.setCell ⟨p, 12, none⟩ (.bool (decide (4096 ≤ (s.data.length : Int)))) |>.alloc (.cells #[.int .u8 c] 5)).cell? ⟨w.heap.size, 0, none⟩ = some (.int .u8 c) := by
    have e : (w.setCell ⟨p, 12, none⟩ (.bool (decide (4096 ≤ (s.data.length : Int))))).heap.size = w.heap.size := by simp
    have := heap_alloc_new (w.setCell ⟨p, 12, none⟩ (.bool (decide (4096 ≤ (s.data.length : Int))))) (.cells #[.int .u8 c] 5)
    rw [e] at this
    exact (cells1 this).1
  have hn4 : s.data.length ≤ 100000 := by have := hok.data; omega
  go_enter Tryd.func36, Tryd.ntmps36
  go_wp2_with (first
    | (refine wpList_pushD rfl _ _ _ rfl Tryd.underlying32 h4 c w.heap.size rfl rfl hb4 hn4 ?_
       intro g cap w1 hG hown hb1
       obtain ⟨r0, r1, r2, r3, r4, r5, r6, r7, r8, r9, r10, r11, r12, rf⟩ := cells13 hb1))
  all_goals first | go_end0 | (refine bodyPost_ret (results_none rfl _ _ _) rfl ?_)
  · rename_i hv
    obtain ⟨h5, hu5⟩ := h.set (s' := { s with void := true }) 12 (.bool true) rfl rfl rfl rfl
    obtain ⟨h6, hu6⟩ := h5.dropD
    have e : textM s c = { s with void := true, data := [] } := by simp [textM, hv]
    rw [e]
    exact ⟨rfl, lv, .one h.pm.pIn (hu5.trans1 hu6), _, _, _, _, _, h6⟩
  · rename_i hv hl
    obtain ⟨h5, hu5⟩ := h.set (s' := { s with void := true }) 12 (.bool true) rfl rfl rfl rfl
    obtain ⟨h6, hu6⟩ := h5.dropD
    have hl' : 4096 ≤ s.data.length := by omega
    have e : textM s c = { s with void := true, data := [] } := by simp [textM, hl']
    rw [e]
    exact ⟨rfl, lv, .one h.pm.pIn (hu5.trans1 hu6), _, _, _, _, _, h6⟩
  · rename_i hv hl
    obtain ⟨h5, hs5⟩ := h4.pushD (c := c) hG hown
    have hl' : ¬ 4096 ≤ s.data.length := by omega
    have e : textM s c = { s with void := decide (4096 ≤ (s.data.length : Int)), data := s.data ++ [c] } := by simp [textM, hv, hl']; omega
    rw [e]
    exact ⟨rfl, _, ((Stp.one h.pm.pIn hu3).trans (.gr ((Gr.refl _).alloc _))).trans hs5, _, _, _, _, _, h5⟩
end
section
open Go.RowKit
variable [Bs]

variable {lv : List Nat} {w : World} {p o : Nat} {s : PS} {ts : List Tok}

def accS (s : PS) (c : Int) : PS := if isAcc c = true then accByte s c else s

/-- Appending a number, at a step of a region that draws its order. -/
theorem step_pushA {iv dv ov : Value} {qs : List (Value × Value)} {W : World} {ia : Option Addr} {ic : Nat} {ops : Array Oper} {u : Oper} {a : Act} {K : Act → World → Prop} {Q : Exit → Act → World → Prop} {E : Prop} (hgd : u.guard = none) (x y : Operand) (t : TypeId)
    (hu : u.op = .call { callee := .builtin .append, args := #[x, y], argTypes := #[t, t] }) (ht : Tryd.prog.underlying t = some (.slice 3)) (h : St lv w p s iv dv (.slice ia s.done.length ic) o ts ov qs) (c : Int) (b : Nat)
    (hx : a.eval x = .slice ia s.done.length ic) (hy : a.eval y = .slice (some ⟨b, 0, none⟩) 1 1) (hW : Gr w W) (hb : W.cell? ⟨b, 0, none⟩ = some (.int .i64 c)) (hn : s.done.length ≤ 100000)
    (H : ∀ g cap w1, Grew W w1 (.slice ia s.done.length ic) (.slice (some ⟨g, 0, none⟩) (s.done.length + 1) cap) g → w1.ownsRow Bs.b 3 1 (.slice (some ⟨g, 0, none⟩) (s.done.length + 1) cap) (s.done.length + 1) (icells (s.done ++ [c])) →
      w1.heap[p]? = some (.cells (pcells s iv dv (.slice ia s.done.length ic)) 38 (0, 0)) → K (a.put u.dst (.slice (some ⟨g, 0, none⟩) (s.done.length + 1) cap)) w1) :
    if Region.wanted u (yielded ops a.tmps) = true then Oper.wp Tryd.prog u a W K Q else E := by
  obtain ⟨i0, hi0, hz0, hz1, hz2⟩ := info_parts int_info
  have h4 := h.gr hW
  refine step_append_lies _ hgd x y t hu Bs.b 3 i0 _ 1 8 ht hi0 hz0 hz1 hz2 rfl (by omega) _ _ _ hx h4.pm.done ⟨b, 0, none⟩ 1 1 [.int .i64 c] hy rfl ?_ ?_ (by omega) ?_ ?_ h4.pm.bs _ rfl ?_
  · intro j v hv
    have hj : j = 0 := by rcases j with _ | j <;> simp at hv <;> rfl
    subst hj
    simp at hv; subst hv
    simpa [Addr.add] using hb
  · intro v hv; simp at hv; subst hv; rfl
  · simp only [maxLen]; omega
  · omega
  · intro g cap w1 hown hgr hat hlt
    have hG : Grew W w1 (.slice ia s.done.length ic) (.slice (some ⟨g, 0, none⟩) (s.done.length + 1) cap) g := ⟨hgr, hat, hlt, rfl⟩
    exact H g cap w1 hG (by simpa [icells] using hown) ((hG.new (blk_lt h4.pm.blk) h4.ap).trans h4.pm.blk)

theorem acc_semi {iv dv ov av V : Value} {g : Nat} {qs : List (Value × Value)} {W w1 : World} (h : St lv w p s iv dv av o ts ov qs) (hW : Gr w W) (hG : Grew W w1 av V g)
    (hown : w1.ownsRow Bs.b 3 1 V (s.done.length + 1) (icells (s.done ++ [s.now]))) :
    ∃ lv', Stp lv w lv' (((w1.setCell ⟨p, 8, none⟩ V).setCell ⟨p, 9, none⟩ (.int .i64 0)).setCell ⟨p, 10, none⟩ (.bool true)) ∧
      SS lv' (((w1.setCell ⟨p, 8, none⟩ V).setCell ⟨p, 9, none⟩ (.int .i64 0)).setCell ⟨p, 10, none⟩ (.bool true)) p { s with done := s.done ++ [s.now], now := 0, begun := true } o ts := by
  obtain ⟨h5, hs5⟩ := (h.gr hW).pushA (c := s.now) hG hown
  obtain ⟨h6, hu6⟩ := h5.set (s' := { s with done := s.done ++ [s.now], now := 0 }) 9 (.int .i64 0) rfl rfl rfl rfl
  obtain ⟨h7, hu7⟩ := h6.set (s' := { s with done := s.done ++ [s.now], now := 0, begun := true }) 10 (.bool true) rfl rfl rfl rfl
  exact ⟨_, ((Stp.gr hW).trans hs5).trans (.one (by simp [h.pm.pIn]) (hu6.trans1 hu7)), _, _, _, _, _, h7⟩
theorem acc_set {iv dv ov av : Value} {qs : List (Value × Value)} (h : St lv w p s iv dv av o ts ov qs) (n : Int) :
    ∃ lv', Stp lv w lv' ((w.setCell ⟨p, 9, none⟩ (.int .i64 n)).setCell ⟨p, 10, none⟩ (.bool true)) ∧ SS lv' ((w.setCell ⟨p, 9, none⟩ (.int .i64 n)).setCell ⟨p, 10, none⟩ (.bool true)) p { s with now := n, begun := true } o ts := by
  obtain ⟨h6, hu6⟩ := h.set (s' := { s with now := n }) 9 (.int .i64 n) rfl rfl rfl rfl
  obtain ⟨h7, hu7⟩ := h6.set (s' := { s with now := n, begun := true }) 10 (.bool true) rfl rfl rfl rfl
  exact ⟨_, .one h.pm.pIn (hu6.trans1 hu7), _, _, _, _, _, h7⟩

set_option maxRecDepth 100000 in
set_option maxHeartbeats 1000000 in
theorem accByte_SS (c : Int) (hc0 : 0 ≤ c) (hc1 : c < 256) (hok : s.ok) (h : SS lv w p s o ts) : Calls Tryd.prog 45 #[.pointer (some ⟨p, 8, none⟩), .int .u8 c] w fun e w' => e = .returned (.bool (isAcc c)) ∧ ∃ lv', Stp lv w lv' w' ∧ SS lv' w' p (accS s c) o ts := by
  obtain ⟨iv, dv, av, ov, qs, hS⟩ := h
  obtain ⟨k0, k1, k2, k3, k4, k5, k6, k7, k8, k9, k10, k11, k12, kf⟩ := cells13 hS.pm.blk
  obtain ⟨ia, ic, rfl⟩ := row_form hS.pm.done
  obtain ⟨q0, q1, q2, q3, q4, q5, q6, q7, q8, q9, q10, q11, q12, qf⟩ := cells13 (((Gr.refl w).alloc (.cells #[.int .i64 s.now] 3)).blk hS.pm.blk)
  have hn4 : s.done.length ≤ 100000 := by have := hok.done; omega
  obtain ⟨n0, n1⟩ := hok.now
  go_enter Tryd.func45, Tryd.ntmps45
  go_wp2_with fail
  · go_region_law (refine step_pushA rfl _ _ _ rfl Tryd.underlying31 hS s.now w.heap.size (by simp [Act.eval, Act.put]) (by simp [Act.eval, Act.put]) (by (repeat (first | with_reducible (refine Gr.setCell ?_ ?hp _; case hp => (simp; try omega)) | with_reducible refine Gr.alloc ?_ _ | with_reducible refine Gr.drew ?_ | with_reducible refine Gr.drewN ?_ _ | with_reducible assumption | with_reducible exact Gr.refl _ | with_reducible refine Gr.trans ?_ (by assumption)))) (by simp) hn4 ?_; intro g cap w1 hG hown hb1; obtain ⟨r0, r1, r2, r3, r4, r5, r6, r7, r8, r9, r10, r11, r12, rf⟩ := cells13 hb1)
    all_goals (go_wp2_with fail; go_ret)
    all_goals
      have hc : c = 59 := by simpa using ‹(c == 59) = true›
      have hl : s.done.length < 30 := by omega
      have e : accS s c = { s with done := s.done ++ [s.now], now := 0, begun := true } := by simp [accS, isAcc, accByte, hc, hl]
      rw [show isAcc c = true by simp [isAcc, hc], e]
      refine ⟨rfl, acc_semi hS (W := _) ?_ hG hown⟩
      (repeat (first | with_reducible (refine Gr.setCell ?_ ?hp _; case hp => (simp; try omega)) | with_reducible refine Gr.alloc ?_ _ | with_reducible refine Gr.drew ?_ | with_reducible refine Gr.drewN ?_ _ | with_reducible assumption | with_reducible exact Gr.refl _ | with_reducible refine Gr.trans ?_ (by assumption)))
  all_goals go_ret
  · have hc : c = 59 := by simpa using ‹(c == 59) = true›
    have hl : ¬ s.done.length < 30 := by omega
    have e : accS s c = { s with now := 0, begun := true } := by simp [accS, isAcc, accByte, hc, hl]
    rw [show isAcc c = true by simp [isAcc, hc], e]
    exact ⟨rfl, acc_set hS 0⟩
  · have hc : c ≠ 59 := by simpa using ‹(c == 59) = false›
    have e : accS s c = { s with now := 65535, begun := true } := by
      have : min (s.now * 10 + (c - 48)) 65535 = 65535 := by omega
      simp [accS, isAcc, accByte, hc, this]; omega
    rw [show isAcc c = true by simp [isAcc]; omega, e]
    exact ⟨rfl, acc_set hS 65535⟩
  · have hc : c ≠ 59 := by simpa using ‹(c == 59) = false›
    have e : accS s c = { s with now := s.now * 10 + (c - 48), begun := true } := by
      have : min (s.now * 10 + (c - 48)) 65535 = s.now * 10 + (c - 48) := by omega
      simp [accS, isAcc, accByte, hc, this]; omega
    rw [show isAcc c = true by simp [isAcc]; omega, e]
    exact ⟨rfl, acc_set hS _⟩
  all_goals
    have hc : c ≠ 59 := by simpa using ‹(c == 59) = false›
    have hf : isAcc c = false := by simp [isAcc]; omega
    have e : accS s c = s := by simp [accS, hf]
    rw [hf, e]
    exact ⟨rfl, lv, .refl _ _, _, _, _, _, _, hS⟩
end
section
open Go.RowKit
variable [Bs]

variable {lv : List Nat} {w w1 : World} {p o : Nat} {s : PS} {iv dv av ov : Value} {ts : List Tok} {qs : List (Value × Value)}

theorem tsCells_append (ts : List Tok) (qs : List (Value × Value)) (t : Tok) (q : Value × Value) (h : qs.length = ts.length) : tsCells (ts ++ [t]) (qs ++ [q]) = tsCells ts qs ++ tcells t q := by
  induction ts generalizing qs with
  | nil => cases qs with
    | nil => simp [tsCells]
    | cons => simp at h
  | cons a l ih => cases qs with
    | nil => simp at h
    | cons b r => simp [tsCells, ih r (by simpa using h)]

theorem St.pushO {V : Value} {g : Nat} {t : Tok} {q : Value × Value} (h : St lv w p s iv dv av o ts ov qs) (ht : TMem lv w t q.1 q.2) (hg : Grew w w1 ov V g)
    (hV : w1.ownsRow Bs.b 34 6 V (ts.length + 1) (tsCells ts qs ++ tcells t q)) :
    St (g :: lv) (w1.setCell ⟨o, 0, none⟩ V) p s iv dv av o (ts ++ [t]) V (qs ++ [q]) ∧ Stp lv w (g :: lv) (w1.setCell ⟨o, 0, none⟩ V) := by
  obtain ⟨hs, hu⟩ := hg.upd h.ro (blk_lt h.om.blk) 0 V h.om.rIn h.om.oIn
  have go : g ≠ o := (hg.ne (blk_lt h.om.blk) h.ro).symm
  have hgl : ∀ k, k < w.heap.size → k ∈ g :: lv → k ∈ lv := by
    intro k hk hl
    rcases List.mem_cons.1 hl with rfl | hl
    · rcases hg.at_ with e | e
      · exact h.om.rIn _ e
      · omega
    · exact hl
  have hKl : ∀ k, k < w.heap.size → k ∈ o :: ov.ownBlock.toList → k ∈ lv := by
    intro k _ hk
    simp at hk
    rcases hk with rfl | hk
    · exact h.om.oIn
    · exact h.om.rIn k hk
  have far : ∀ {x : Value} {e size n : Nat} {xs : List Value}, w.ownsRow Bs.b e size x n xs → x.ownBlock ≠ some o → (∀ k, x.ownBlock = some k → ov.ownBlock ≠ some k) → (w1.setCell ⟨o, 0, none⟩ V).ownsRow Bs.b e size x n xs := by
    intro x e size n xs hx hxp hxi
    exact ownsRow_same hx fun k hk => hu.block k (ownsRow_blk hx hk) (by simp; exact ⟨fun e => hxp (e ▸ hk), hxi k hk⟩)
  refine ⟨⟨⟨?_, far h.pm.inters h.io fun k hk => row_type h.pm.inters h.om.row (by decide) hk, far h.pm.data h.do_ fun k hk => row_type h.pm.data h.om.row (by decide) hk, far h.pm.done h.ao fun k hk => row_type h.pm.done h.om.row (by decide) hk,
      by simp [h.pm.pIn], fun k hk => by simp [h.pm.iIn k hk], fun k hk => by simp [h.pm.dIn k hk], fun k hk => by simp [h.pm.aIn k hk], h.pm.apart, Nat.le_trans h.pm.bs hu.size⟩, ⟨blk_set ((hg.new (blk_lt h.om.blk) h.ro).trans h.om.blk) 0 V, ?_, ?_, ?_, by simp [h.om.oIn], ?_, Nat.le_trans h.om.bs hu.size⟩⟩, hs⟩
  · rw [hu.block p (blk_lt h.pm.blk) (by simp; exact ⟨h.po, h.rp⟩)]; exact h.pm.blk
  · rw [tsCells_append _ _ _ _ h.om.len, show (ts ++ [t]).length = ts.length + 1 by simp]
    exact ownsRow_same hV fun k hk => by
      rw [hg.own] at hk; injection hk with hk; subst hk
      rw [Below.heap_setCell _ _ _ _ go]
  · simp [h.om.len]
  · intro i t' q' hi hq
    rcases Nat.lt_or_ge i ts.length with hlt | hge
    · rw [List.getElem?_append_left hlt] at hi
      rw [List.getElem?_append_left (by rw [h.om.len]; exact hlt)] at hq
      exact (h.om.toks i t' q' hi hq).upd hu hKl hgl
    · rw [List.getElem?_append_right hge] at hi
      rw [List.getElem?_append_right (by rw [h.om.len]; exact hge)] at hq
      have hi0 : i - ts.length = 0 := by
        rcases hx : i - ts.length with _ | n
        · rfl
        · rw [hx] at hi; simp at hi
      rw [hi0] at hi
      rw [h.om.len, hi0] at hq
      simp at hi hq
      subst hi; subst hq
      exact ht.upd hu hKl hgl
  · intro k hk; rw [hg.own] at hk; injection hk with hk; simp [hk]
end
section
open Go.RowKit
variable [Bs]

variable {lv : List Nat} {w : World} {p o : Nat} {s : PS} {ts : List Tok}

theorem token_info : (Tryd.prog.info? 34).map (fun i => (i.zero, i.size, i.bytes)) = some (some (.agg #[.int .i64 0, .int .u8 0, .int .u8 0, .slice none 0 0, .string ⟨#[]⟩, .slice none 0 0]), 6, 80) := by kernel_rfl

/-- Appending a token that lies in a block of its own. -/
theorem wpList_pushO {iv dv av ov : Value} {qs : List (Value × Value)} {ops : Array Oper} {rest : List Oper} {u : Oper} {a : Act} {Q : Exit → Act → World → Prop} (hgd : u.guard = none) (x y : Operand) (t : TypeId)
    (hu : u.op = .call { callee := .builtin .append, args := #[x, y], argTypes := #[t, t] }) (ht : Tryd.prog.underlying t = some (.slice 34)) (h : St lv w p s iv dv av o ts ov qs) (tk : Tok) (q : Value × Value) (b : Nat)
    (hx : a.eval x = ov) (hy : a.eval y = .slice (some ⟨b, 0, none⟩) 1 1) (hb : w.heap[b]? = some (.cells (tcells tk q).toArray 34 (0, 0))) (hq : q.1.oneCell' = true ∧ q.2.oneCell' = true) (hn : ts.length ≤ 100000)
    (K : ∀ g cap w1, Grew w w1 ov (.slice (some ⟨g, 0, none⟩) (ts.length + 1) cap) g → w1.ownsRow Bs.b 34 6 (.slice (some ⟨g, 0, none⟩) (ts.length + 1) cap) (ts.length + 1) (tsCells ts qs ++ tcells tk q) →
      w1.heap[o]? = some (.cells #[ov] 45 (0, 0)) → wpList Tryd.prog ops Q rest (a.put u.dst (.slice (some ⟨g, 0, none⟩) (ts.length + 1) cap)) w1) : wpList Tryd.prog ops Q (u :: rest) a w := by
  obtain ⟨i0, hi0, hz0, hz1, hz2⟩ := info_parts token_info
  refine wpList_append_lies _ hgd x y t hu Bs.b 34 i0 _ 6 80 ht hi0 hz0 hz1 hz2 rfl (by omega) _ _ _ hx h.om.row ⟨b, 0, none⟩ 1 1 (tcells tk q) hy rfl ?_ ?_ (by omega) ?_ ?_ h.om.bs _ rfl ?_
  · intro j v hv
    have hc := cell_of_row hb j v (by simpa using hv)
    have e : (⟨b, 0, none⟩ : Addr).add j = ⟨b, j, none⟩ := by rcases j with _ | j <;> simp [Addr.add]
    rw [e]; exact hc
  · intro v hv
    simp [tcells] at hv
    rcases hv with rfl | rfl | rfl | rfl | rfl | rfl
    all_goals first | rfl | exact hq.1 | exact hq.2
  · simp only [maxLen]; omega
  · omega
  · intro g cap w1 hown hgr hat hlt
    have hG : Grew w w1 ov (.slice (some ⟨g, 0, none⟩) (ts.length + 1) cap) g := ⟨hgr, hat, hlt, rfl⟩
    exact K g cap w1 hG hown ((hG.new (blk_lt h.om.blk) h.ro).trans h.om.blk)

set_option maxRecDepth 100000 in
set_option maxHeartbeats 1000000 in
theorem plain_SS (c : Int) (u : Value) (hn : ts.length ≤ 100000) (h : SS lv w p s o ts) : Calls Tryd.prog 33 #[u, .int .u8 c, .pointer (some ⟨o, 0, none⟩)] w fun e w' => e = .returned (.tuple #[]) ∧ ∃ lv', Stp lv w lv' w' ∧ SS lv' w' p s o (ts ++ [printT c]) := by
  obtain ⟨iv, dv, av, ov, qs, hS⟩ := h
  obtain ⟨k0, kf⟩ := cells1 hS.om.blk
  have hW := (Gr.refl w).alloc (.cells (tcells (printT c) (.slice none 0 0, .slice none 0 0)).toArray 34)
  have h4 := hS.gr hW
  have hb4 := heap_alloc_new w (.cells (tcells (printT c) (.slice none 0 0, .slice none 0 0)).toArray 34)
  go_enter Tryd.func33, Tryd.ntmps33
  go_wp2_with (first
    | (refine wpList_pushO rfl _ _ _ rfl Tryd.underlying45 h4 (printT c) (.slice none 0 0, .slice none 0 0) w.heap.size rfl rfl hb4 ⟨rfl, rfl⟩ hn ?_
       intro g cap w1 hG hown hb1
       obtain ⟨r0, rf⟩ := cells1 hb1))
  go_end0
  have ht : TMem lv (w.alloc (.cells (tcells (printT c) (.slice none 0 0, .slice none 0 0)).toArray 34)) (printT c) (.slice none 0 0) (.slice none 0 0) :=
    ⟨.nil _ _, .nil _ _, by simp [Value.ownBlock], by simp [Value.ownBlock], by simp [Value.ownBlock], by simp [Value.ownBlock]⟩
  obtain ⟨h5, hs5⟩ := h4.pushO (q := (.slice none 0 0, .slice none 0 0)) ht hG hown
  exact ⟨rfl, _, (Stp.gr hW).trans hs5, _, _, _, _, _, h5⟩
end
end Go.Proofs.YtnnhaenmoifplaaDoor
