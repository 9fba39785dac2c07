/-
  Rows of structs as pieces: their elements are read.
-/
import Derived.Test.YtaeppimldbknhaaZHe
namespace Go.Proofs.Ytaeppimldbknhaa
set_option linter.unusedSimpArgs false
set_option linter.unusedVariables false
open Go.RowKit
set_option linter.unusedVariables false

/-- The cells of a block. -/
def blkC (w : World) (g : Nat) : Array Value := match w.heap[g]? with
  | some (.cells C _ _) => C
  | _ => #[]
theorem blkC_eq {w : World} {g : Nat} {C : Array Value} {T : TypeId} {fr : Nat × Nat} (h : w.heap[g]? = some (.cells C T fr)) : blkC w g = C := by
  unfold blkC; rw [h]
/-- Elements of several cells, one behind the other. -/
def flC {α : Type} (f : α → List Value) (l : List α) : List Value := l.flatMap f
section
variable {α : Type} {f : α → List Value} {k : Nat}
theorem flC_app (l m : List α) : flC f l ++ flC f m = flC f (l ++ m) := by simp [flC]
theorem flC_drop (hf : ∀ x, (f x).length = k) : ∀ (l : List α) (i : Nat) (d : α), i < l.length → (flC f l).drop (i * k) = f (l.getD i d) ++ flC f (l.drop (i + 1))
  | x :: l, 0, d, _ => by simp [flC]
  | x :: l, i + 1, d, h => by
    have : flC f (x :: l) = f x ++ flC f l := rfl
    have h' : i < l.length := by simpa using h
    have e : (i + 1) * k = (f x).length + i * k := by rw [hf, Nat.add_mul]; omega
    rw [this, e, ← List.drop_drop, List.drop_left, flC_drop hf l i d h']
    simp
theorem flC_get (hf : ∀ x, (f x).length = k) {l : List α} {i j : Nat} {d : α} {v : Value} (h : i < l.length) (hj : (f (l.getD i d))[j]? = some v) : (flC f l)[i * k + j]? = some v := by
  have h1 : ((flC f l).drop (i * k))[j]? = some v := by
    rw [flC_drop hf l i d h, List.getElem?_append_left (List.getElem?_eq_some_iff.1 hj).1]
    exact hj
  rw [List.getElem?_drop] at h1
  exact h1
theorem flC_part (hf : ∀ x, (f x).length = k) {l : List α} {i j m : Nat} {d : α} {cs : List Value} (h : i < l.length) (hj : ((f (l.getD i d)).drop j).take m = cs) (hl : cs.length = m) : ((flC f l).drop (i * k + j)).take m = cs := by
  rw [← List.drop_drop, flC_drop hf l i d h]
  rcases Nat.eq_zero_or_pos m with rfl | hm
  · simp at hl ⊢; exact hl
  · have : m ≤ (f (l.getD i d)).length - j := by
      rw [← hl, ← hj, List.length_take, List.length_drop]; omega
    rw [List.drop_append, List.take_append, hj]
    have e : m - (List.drop j (f (l.getD i d))).length = 0 := by rw [List.length_drop]; omega
    rw [e]; simp
theorem flC_one (h1 : ∀ x, ∀ v ∈ f x, v.oneCell' = true) (l : List α) : ∀ v ∈ flC f l, v.oneCell' = true := by
  intro v hv
  obtain ⟨x, _, hx⟩ := List.mem_flatMap.1 hv
  exact h1 x v hx
end
section
variable {P : Program} {U : List Nat} {w0 w : World} {As : List HA} {i m c size : Nat} {a : Option Addr} {T : TypeId} {xs : List Value}
/-- A row that is not empty lies in a block. -/
theorem SH.row_some (h : SH U w0 w As) (hi : As[i]? = some (rowH T size a m c xs)) (hm : 0 < m) : ∃ g, a = some ⟨g, 0, Option.none⟩ := by
  obtain ⟨_, h2 | ⟨g, cap, cur, hv, _⟩⟩ := h.row_at hi
  · omega
  · simp only [Value.slice.injEq] at hv
    exact ⟨g, hv.1⟩
theorem SH.row_cells (h : SH U w0 w As) {g : Nat} (hi : As[i]? = some (rowH T size (some ⟨g, 0, Option.none⟩) m c xs)) : ∃ C, w.heap[g]? = some (.cells C T (0, 0)) ∧ C.toList.take (m * size) = xs ∧ xs.length = m * size ∧ m ≤ c := by
  obtain ⟨h1, h2 | ⟨g', cap, cur, hv, _, h4, h5, h6, h7, h8⟩⟩ := h.row_at hi
  · simp at h2
  · simp only [Value.slice.injEq, Option.some.injEq, Addr.mk.injEq] at hv
    obtain ⟨⟨rfl, _, _⟩, _, rfl⟩ := hv
    exact ⟨cur, h4, h8, h1, h5⟩
theorem SH.row_blk (h : SH U w0 w As) {g : Nat} (ha : a = some ⟨g, 0, Option.none⟩) (hi : As[i]? = some (rowH T size a m c xs)) : w.heap[g]? = some (.cells (blkC w g) T (0, 0)) := by
  subst ha
  obtain ⟨C, h1, _⟩ := h.row_cells hi
  rw [blkC_eq h1]; exact h1
theorem SH.row_one (h : SH U w0 w As) {g : Nat} (ha : a = some ⟨g, 0, Option.none⟩) (hi : As[i]? = some (rowH T size a m c xs)) {p : Nat} {v : Value} (hp : xs[p]? = some v) : (blkC w g)[p]? = some v := by
  subst ha
  obtain ⟨C, h1, h2, h3, _⟩ := h.row_cells hi
  rw [blkC_eq h1]
  rw [← h2, List.getElem?_take] at hp
  split at hp
  · rw [Array.getElem?_toList] at hp; exact hp
  · cases hp
theorem SH.row_many (h : SH U w0 w As) {g : Nat} (ha : a = some ⟨g, 0, Option.none⟩) (hi : As[i]? = some (rowH T size a m c xs)) {p k : Nat} {cs : List Value} (hp : (xs.drop p).take k = cs) (hl : cs.length = k) : ((blkC w g).toList.drop p).take k = cs := by
  subst ha
  obtain ⟨C, h1, h2, h3, _⟩ := h.row_cells hi
  rw [blkC_eq h1]
  rw [← h2] at hp
  rcases Nat.eq_zero_or_pos k with rfl | hk
  · simp at hl ⊢; exact hl
  · have h4 : k ≤ (List.drop p (List.take (m * size) C.toList)).length := by
      rw [← hl, ← hp, List.length_take]; omega
    rw [List.length_drop, List.length_take] at h4
    rw [← hp, List.drop_take, List.take_take]
    congr 1
    omega
/-- A place in a row. -/
theorem run_ixR {o : Oper} {e : Nat → Value} {t : TypeId} {x y : Operand} {len cap size i g : Nat} {q : IntKind} {I : Int} {a : Option Addr} (ha : a = some ⟨g, 0, Option.none⟩) (ho : o.op = .indexAddr t x y) (hx : evE e x = .slice a len cap) (hy : evE e y = .int q I) (hI : I = (i : Int)) (ht : P.underlying t = some (.slice (P.elem t))) (hs : (P.info? (P.elem t)).map (·.size) = some size) (hi : i < len) :
    (execOp (evE e) o).run P w = .ok (.value (.pointer (some ⟨g, i * size, Option.none⟩))) w := by
  subst ha
  have := run_ix (w := w) ho hx hy hI ht hs hi
  rw [Nat.zero_add] at this
  exact this
end
end Go.Proofs.Ytaeppimldbknhaa
