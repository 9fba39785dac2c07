/-
  Laws over any program: one element more in a row of the call's own.
-/
import Derived.Deep.AppendLies
import Derived.Deep.RegionLaw
import Derived.Test.YtdfohcnejdhkiaaDoorZLw3
namespace Go.Proofs.YtdfohcnejdhkiaaDoor
set_option linter.unusedSimpArgs false
set_option linter.unusedVariables false
open Go.RowKit

/-- A row has grown to V, that lies in block g. -/
structure Grew (w w1 : World) (old V : Value) (g : Nat) : Prop where
  grown : w.grownBy w1 old.ownBlock
  at_ : old.ownBlock = some g ∨ g = w.heap.size
  lt : g < w1.heap.size
  own : V.ownBlock = some g

section
variable {P : Program} {ops : Array Oper} {rest : List Oper} {u : Oper} {a : Act} {w : World} {Q : Exit → Act → World → Prop}

/-- One element of several cells is appended, that lies in a block of its own. -/
theorem wpList_pushN (hgd : u.guard = none) (x y : Operand) (t : TypeId) (hu : u.op = .call { callee := .builtin .append, args := #[x, y], argTypes := #[t, t] })
    (base : Nat) (e : TypeId) (z : Value) (size bytes : Nat) (ht : P.underlying t = some (.slice e)) (hinfo : (P.info? e).map (fun i => (i.zero, i.size, i.bytes)) = some (some z, size, bytes)) (hzs : z.cells.size = size) (hsz : 0 < size) (hby : bytes ≤ 1000)
    (v : Value) (n : Nat) (xs : List Value) (cs : List Value) (hown : w.ownsRow base e size v n xs) (b : Nat) {e' : TypeId}
    (hx : a.eval x = v) (hy : a.eval y = .slice (some ⟨b, 0, none⟩) 1 1) (hb : w.heap[b]? = some (.cells cs.toArray e' (0, 0))) (hcs : cs.length = size) (hc : ∀ c ∈ cs, c.oneCell' = true) (hn : n ≤ 100000000) (hbase : base ≤ w.heap.size)
    (K : ∀ g cap w1, Grew w w1 v (.slice (some ⟨g, 0, none⟩) (n + 1) cap) g → w1.ownsRow base e size (.slice (some ⟨g, 0, none⟩) (n + 1) cap) (n + 1) (xs ++ cs) →
      wpList P ops Q rest (a.put u.dst (.slice (some ⟨g, 0, none⟩) (n + 1) cap)) w1) : wpList P ops Q (u :: rest) a w := by
  obtain ⟨i0, hi0, hz0, hz1, hz2⟩ := info_parts hinfo
  refine wpList_append_lies _ hgd x y t hu base e i0 _ size bytes ht hi0 hz0 hz1 hz2 hzs hsz _ _ _ hx hown ⟨b, 0, none⟩ 1 1 cs hy (by omega) ?_ hc (by omega) ?_ ?_ hbase _ rfl ?_
  · intro j v hv
    have hc := cell_of_row hb j v (by simpa using hv)
    have e : (⟨b, 0, none⟩ : Addr).add j = ⟨b, j, none⟩ := by rcases j with _ | j <;> simp [Addr.add]
    rw [e]; exact hc
  · simp only [maxLen]; omega
  · have : (n + 1) * bytes ≤ (n + 1) * 1000 := Nat.mul_le_mul_left _ hby
    omega
  · intro g cap w1 hown hgr hat hlt
    exact K g cap w1 ⟨hgr, hat, hlt, rfl⟩ hown
end

theorem ownsRow_blk {w : World} {B e size n : Nat} {v : Value} {xs : List Value} (h : w.ownsRow B e size v n xs) {k : Nat} (hk : v.ownBlock = some k) : k < w.heap.size := by
  rcases h.2 with ⟨hv, _⟩ | ⟨g, cap, cur, hv, _, hh, _⟩
  · rw [hv] at hk; cases hk
  · rw [hv] at hk
    simp only [Value.ownBlock, Option.some.injEq] at hk
    subst hk
    exact (Array.getElem?_eq_some_iff.1 hh).1
theorem ownsRow_base {w : World} {B e size n : Nat} {v : Value} {xs : List Value} (h : w.ownsRow B e size v n xs) {k : Nat} (hk : v.ownBlock = some k) : B ≤ k := by
  rcases h.2 with ⟨hv, _⟩ | ⟨g, cap, cur, hv, hB, hh, _⟩
  · rw [hv] at hk; cases hk
  · rw [hv] at hk
    simp only [Value.ownBlock, Option.some.injEq] at hk
    subst hk
    exact hB
/-- A row whose block has not changed. -/
theorem ownsRow_same {w w' : World} {B e size n : Nat} {v : Value} {xs : List Value} (h : w.ownsRow B e size v n xs) (hs : ∀ k, v.ownBlock = some k → w'.heap[k]? = w.heap[k]?) : w'.ownsRow B e size v n xs := by
  refine ⟨h.1, ?_⟩
  rcases h.2 with h2 | ⟨g, cap, cur, hv, hg, hh, r⟩
  · exact .inl h2
  · exact .inr ⟨g, cap, cur, hv, hg, by rw [hs g (by rw [hv]; rfl)]; exact hh, r⟩
theorem ownsRow_gr {w w' : World} {B e size n : Nat} {v : Value} {xs : List Value} (h : w.ownsRow B e size v n xs) (hg : Gr w w') : w'.ownsRow B e size v n xs :=
  ownsRow_same h fun k hk => hg.block k (ownsRow_blk h hk)
theorem row_form {w : World} {B e size n : Nat} {v : Value} {xs : List Value} (h : w.ownsRow B e size v n xs) : ∃ a cap, v = .slice a n cap := by
  rcases h.2 with ⟨rfl, rfl⟩ | ⟨g, cap, cur, rfl, _⟩
  · exact ⟨_, _, rfl⟩
  · exact ⟨_, _, rfl⟩
/-- What a row of the call's own that has grown leaves of what was there ahead of the call. -/
theorem Grew.gr {w0 w w1 : World} {old V : Value} {g : Nat} (h : Grew w w1 old V g) (h0 : Gr w0 w) (hb : ∀ k, old.ownBlock = some k → w0.heap.size ≤ k) : Gr w0 w1 :=
  Below.grown h0 h.grown h0.size (fun k hk => hb k hk)
theorem Grew.new {w w1 : World} {old V : Value} {g : Nat} (h : Grew w w1 old V g) {k : Nat} (hk : k < w.heap.size) (hne : old.ownBlock ≠ some k) : w1.heap[k]? = w.heap[k]? := h.grown.block k hk fun e => hne e.symm
theorem Grew.ne {w w1 : World} {old V : Value} {g : Nat} (h : Grew w w1 old V g) {k : Nat} (hk : k < w.heap.size) (hne : old.ownBlock ≠ some k) : k ≠ g := by
  rintro rfl
  rcases h.at_ with e | e
  · exact hne e
  · omega

end Go.Proofs.YtdfohcnejdhkiaaDoor
