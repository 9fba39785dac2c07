/-
  A parser, its tokens and what a step leaves of them.
-/
import Derived.Test.YtgbmjlajheeciaaPaR
namespace Go.Proofs.Ytgbmjlajheeciaa
set_option linter.unusedSimpArgs false
set_option linter.unusedVariables false
set_option linter.unusedSectionVars false
open Go.RowKit
variable [Bs]

structure PS.ok (s : PS) : Prop where
  phase : 0 ≤ s.phase ∧ s.phase ≤ 4
  kind : 0 ≤ s.kind ∧ s.kind ≤ 9
  code : 0 ≤ s.code ∧ s.code < 256
  mark : 0 ≤ s.mark ∧ s.mark < 256
  inters : s.inters.length ≤ 3
  data : s.data.length ≤ 4096
  done : s.done.length ≤ 30
  now : 0 ≤ s.now ∧ s.now ≤ 65535

/-- A parser and the tokens said, in memory. -/
structure St (lv : List Nat) (w : World) (p : Nat) (s : PS) (iv dv av : Value) (o : Nat) (ts : List Tok) (ov : Value) (qs : List (Value × Value)) : Prop where
  pm : PMem lv w p s iv dv av
  om : OMem lv w o ts ov qs
def SS (lv : List Nat) (w : World) (p : Nat) (s : PS) (o : Nat) (ts : List Tok) : Prop := ∃ iv dv av ov qs, St lv w p s iv dv av o ts ov qs

theorem row_type {w : World} {B B' e e' size size' n n' : Nat} {v v' : Value} {xs xs' : List Value} (h : w.ownsRow B e size v n xs) (h' : w.ownsRow B' e' size' v' n' xs') (hne : e ≠ e') {k : Nat} (hk : v.ownBlock = some k) : v'.ownBlock ≠ some k := by
  intro hk'
  rcases h.2 with ⟨rfl, _⟩ | ⟨g, cap, cur, rfl, _, hh, _⟩
  · cases hk
  rcases h'.2 with ⟨rfl, _⟩ | ⟨g', cap', cur', rfl, _, hh', _⟩
  · cases hk'
  simp only [Value.ownBlock, Option.some.injEq] at hk hk'
  subst hk; subst hk'
  rw [hh] at hh'
  simp at hh'
  exact hne hh'.2
theorem row_ne {w : World} {B e t size n j : Nat} {v : Value} {xs : List Value} {c : Array Value} (h : w.ownsRow B e size v n xs) (hj : w.heap[j]? = some (.cells c t (0, 0))) (hne : e ≠ t) : v.ownBlock ≠ some j := by
  intro hk
  rcases h.2 with ⟨rfl, _⟩ | ⟨g, cap, cur, rfl, _, hh, _⟩
  · cases hk
  simp only [Value.ownBlock, Option.some.injEq] at hk
  subst hk
  rw [hh] at hj
  simp at hj
  exact hne hj.2
theorem blk_lt {w : World} {j : Nat} {b} (h : w.heap[j]? = some b) : j < w.heap.size := (Array.getElem?_eq_some_iff.1 h).1

variable {lv lv' K : List Nat} {w w' : World} {p o : Nat} {s s' : PS} {iv dv av ov : Value} {ts : List Tok} {qs : List (Value × Value)}

theorem OMem.upd (h : OMem lv w o ts ov qs) (hu : Upd K w w') (ho : o ∉ K) (hr : ∀ k, ov.ownBlock = some k → k ∉ K) (hK : ∀ k, k < w.heap.size → k ∈ K → k ∈ lv) (h3 : ∀ k, k < w.heap.size → k ∈ lv' → k ∈ lv)
    (ho' : o ∈ lv') (hr' : ∀ k, ov.ownBlock = some k → k ∈ lv') : OMem lv' w' o ts ov qs :=
  ⟨(hu.block o (blk_lt h.blk) ho).trans h.blk, ownsRow_same h.row fun k hk => hu.block k (ownsRow_blk h.row hk) (hr k hk), h.len, fun i t q ht hq => (h.toks i t q ht hq).upd hu hK h3, ho', hr', Nat.le_trans h.bs hu.size⟩

theorem PMem.keep (h : PMem lv w p s iv dv av) (hu : Upd K w w') (hp : w'.heap[p]? = some (.cells (pcells s' iv dv av) 35 (0, 0)))
    (hi : s'.inters = s.inters) (hd : s'.data = s.data) (ha : s'.done = s.done)
    (h1 : ∀ k, iv.ownBlock = some k → k ∉ K) (h2 : ∀ k, dv.ownBlock = some k → k ∉ K) (h3 : ∀ k, av.ownBlock = some k → k ∉ K) : PMem lv w' p s' iv dv av :=
  ⟨hp, by rw [hi]; exact ownsRow_same h.inters fun k hk => hu.block k (ownsRow_blk h.inters hk) (h1 k hk), by rw [hd]; exact ownsRow_same h.data fun k hk => hu.block k (ownsRow_blk h.data hk) (h2 k hk),
   by rw [ha]; exact ownsRow_same h.done fun k hk => hu.block k (ownsRow_blk h.done hk) (h3 k hk), h.pIn, h.iIn, h.dIn, h.aIn, h.apart, Nat.le_trans h.bs hu.size⟩

theorem St.po (h : St lv w p s iv dv av o ts ov qs) : p ≠ o := by
  intro e
  have := h.pm.blk
  rw [e, h.om.blk] at this
  simp at this
theorem St.op (h : St lv w p s iv dv av o ts ov qs) : o ≠ p := fun e => h.po e.symm
theorem St.ip (h : St lv w p s iv dv av o ts ov qs) : iv.ownBlock ≠ some p := row_ne h.pm.inters h.pm.blk (by decide)
theorem St.dp (h : St lv w p s iv dv av o ts ov qs) : dv.ownBlock ≠ some p := row_ne h.pm.data h.pm.blk (by decide)
theorem St.ap (h : St lv w p s iv dv av o ts ov qs) : av.ownBlock ≠ some p := row_ne h.pm.done h.pm.blk (by decide)
theorem St.rp (h : St lv w p s iv dv av o ts ov qs) : ov.ownBlock ≠ some p := row_ne h.om.row h.pm.blk (by decide)
theorem St.io (h : St lv w p s iv dv av o ts ov qs) : iv.ownBlock ≠ some o := row_ne h.pm.inters h.om.blk (by decide)
theorem St.do_ (h : St lv w p s iv dv av o ts ov qs) : dv.ownBlock ≠ some o := row_ne h.pm.data h.om.blk (by decide)
theorem St.ao (h : St lv w p s iv dv av o ts ov qs) : av.ownBlock ≠ some o := row_ne h.pm.done h.om.blk (by decide)
theorem St.ro (h : St lv w p s iv dv av o ts ov qs) : ov.ownBlock ≠ some o := row_ne h.om.row h.om.blk (by decide)

/-- The world has only grown. -/
theorem St.gr (h : St lv w p s iv dv av o ts ov qs) (hg : Gr w w') : St lv w' p s iv dv av o ts ov qs :=
  ⟨h.pm.keep (Upd.of_gr (lv := []) hg) ((hg.block p (blk_lt h.pm.blk)).trans h.pm.blk) rfl rfl rfl (by simp) (by simp) (by simp), h.om.upd (Upd.of_gr (lv := []) hg) (by simp) (by simp) (by simp) (fun _ _ h => h) h.om.oIn h.om.rIn⟩
/-- Numbers and flags of the parser are others; its rows are not. -/
theorem St.cells (h : St lv w p s iv dv av o ts ov qs) (hu : Upd [p] w w') (hp : w'.heap[p]? = some (.cells (pcells s' iv dv av) 35 (0, 0))) (hi : s'.inters = s.inters) (hd : s'.data = s.data) (ha : s'.done = s.done) :
    St lv w' p s' iv dv av o ts ov qs :=
  ⟨h.pm.keep hu hp hi hd ha (fun k hk => by simp; rintro rfl; exact h.ip hk) (fun k hk => by simp; rintro rfl; exact h.dp hk) (fun k hk => by simp; rintro rfl; exact h.ap hk),
   h.om.upd hu (by simp; exact h.op) (fun k hk => by simp; rintro rfl; exact h.rp hk) (fun k _ hk => by simp at hk; subst hk; exact h.pm.pIn) (fun _ _ h => h) h.om.oIn h.om.rIn⟩
/-- The parser is one without rows. -/
theorem St.fresh (h : St lv w p s iv dv av o ts ov qs) (hu : Upd [p] w w') (hp : w'.heap[p]? = some (.cells (pcells s' (.slice none 0 0) (.slice none 0 0) (.slice none 0 0)) 35 (0, 0))) (hi : s'.inters = []) (hd : s'.data = []) (ha : s'.done = []) :
    St lv w' p s' (.slice none 0 0) (.slice none 0 0) (.slice none 0 0) o ts ov qs :=
  ⟨⟨hp, by rw [hi]; exact World.ownsRow_nil _ _ _ _, by rw [hd]; exact World.ownsRow_nil _ _ _ _, by rw [ha]; exact World.ownsRow_nil _ _ _ _, h.pm.pIn, by simp [Value.ownBlock], by simp [Value.ownBlock], by simp [Value.ownBlock], by simp [Value.ownBlock], Nat.le_trans h.pm.bs hu.size⟩,
   h.om.upd hu (by simp; exact h.op) (fun k hk => by simp; rintro rfl; exact h.rp hk) (fun k _ hk => by simp at hk; subst hk; exact h.pm.pIn) (fun _ _ h => h) h.om.oIn h.om.rIn⟩
theorem Stp.one (hp : p ∈ lv) (hu : Upd [p] w w') : Stp lv w lv w' := ⟨⟨hu.os, hu.tape, hu.output, hu.size, fun k hk hn => hu.block k hk (by simp; rintro rfl; exact hn hp)⟩, fun _ h => .inl h⟩
theorem Stp.gr (hg : Gr w w') : Stp lv w lv w' := ⟨.of_gr hg, fun _ h => .inl h⟩
end Go.Proofs.Ytgbmjlajheeciaa
