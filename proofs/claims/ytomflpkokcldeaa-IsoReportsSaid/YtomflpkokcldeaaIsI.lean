/-
  Left and right apart: the region in which both are made, whatever order is drawn.
-/
import Derived.Test.YtomflpkokcldeaaIsG
import Derived.Test.YtomflpkokcldeaaLw3
import Derived.Test.YtomflpkokcldeaaOrd2
namespace Go.Proofs.Ytomflpkokcldeaa
set_option linter.unusedSimpArgs false
set_option linter.unusedVariables false
open Go.RowKit
set_option linter.unusedVariables false

def pairF (w0 : World) (g0 g1 g2 g3 gl gr si a b : Int) : Nat → (Nat → Value) → World → Prop
  | 0, ys, _ => ys 0 = .agg #[.int .i64 g0, .int .i64 g1, .int .i64 g2, .int .i64 g3, .int .i64 gl, .int .i64 gr, .int .i64 si]
  | 1, ys, _ => ys 1 = .int .i64 a
  | 2, ys, _ => ys 2 = .agg #[.int .i64 g0, .int .i64 g1, .int .i64 g2, .int .i64 g3, .int .i64 (selI (between 0 3 a) a gl), .int .i64 gr, .int .i64 si]
  | 3, ys, _ => ys 3 = .agg #[.int .i64 g0, .int .i64 g1, .int .i64 g2, .int .i64 g3, .int .i64 gl, .int .i64 gr, .int .i64 si]
  | 4, ys, _ => ys 4 = .int .i64 b
  | 5, ys, _ => ys 5 = .agg #[.int .i64 g0, .int .i64 g1, .int .i64 g2, .int .i64 g3, .int .i64 gl, .int .i64 (selI (between 1 3 b) b gr), .int .i64 si]
  | 6, ys, w => ∃ p cs, ys 6 = .pointer (some ⟨p, 0, none⟩) ∧ w0.heap.size ≤ p ∧ cs.size = 7 ∧ w.heap[p]? = some (.cells cs 27 (0, 0))
  | 7, ys, w => ∃ p cs, ys 7 = .pointer (some ⟨p, 0, none⟩) ∧ w0.heap.size ≤ p ∧ cs.size = 7 ∧ w.heap[p]? = some (.cells cs 27 (0, 0))
  | 8, ys, w => ∃ p, ys 6 = .pointer (some ⟨p, 0, none⟩) ∧ w0.heap.size ≤ p ∧ w.heap[p]? = some (.cells #[.int .i64 g0, .int .i64 g1, .int .i64 g2, .int .i64 g3, .int .i64 (selI (between 0 3 a) a gl), .int .i64 gr, .int .i64 si] 27 (0, 0))
  | 9, ys, w => ∃ p, ys 7 = .pointer (some ⟨p, 0, none⟩) ∧ w0.heap.size ≤ p ∧ w.heap[p]? = some (.cells #[.int .i64 g0, .int .i64 g1, .int .i64 g2, .int .i64 g3, .int .i64 gl, .int .i64 (selI (between 1 3 b) b gr), .int .i64 si] 27 (0, 0))
  | _, _, _ => True
/-- A block of seven numbers, cell by cell. -/
def Seven (w : World) (p : Nat) (a0 a1 a2 a3 a4 a5 a6 : Int) : Prop := w.cell? ⟨p, 0, none⟩ = some (.int .i64 a0) ∧ w.cell? ⟨p, 1, none⟩ = some (.int .i64 a1) ∧ w.cell? ⟨p, 2, none⟩ = some (.int .i64 a2) ∧ w.cell? ⟨p, 3, none⟩ = some (.int .i64 a3) ∧ w.cell? ⟨p, 4, none⟩ = some (.int .i64 a4) ∧ w.cell? ⟨p, 5, none⟩ = some (.int .i64 a5) ∧ w.cell? ⟨p, 6, none⟩ = some (.int .i64 a6)
theorem Seven.of {w w' : World} {p : Nat} {a0 a1 a2 a3 a4 a5 a6 : Int} {t : TypeId} (h : w.heap[p]? = some (.cells #[.int .i64 a0, .int .i64 a1, .int .i64 a2, .int .i64 a3, .int .i64 a4, .int .i64 a5, .int .i64 a6] t (0, 0))) (hg : Gr w w') : Seven w' p a0 a1 a2 a3 a4 a5 a6 := by
  have b := hg.blk h
  exact ⟨cell_of_row b 0 _ rfl, cell_of_row b 1 _ rfl, cell_of_row b 2 _ rfl, cell_of_row b 3 _ rfl, cell_of_row b 4 _ rfl, cell_of_row b 5 _ rfl, cell_of_row b 6 _ rfl⟩
theorem field0 (a b c d e f g : Value) (w : World) : (Instr.field 27 (.agg #[a, b, c, d, e, f, g]) 0).run Try.prog w = .ok (.agg #[a, b, c, d]) w := by kernel_rfl
def pairD (j k : Nat) (u v : Value) : Prop := j = 6 → k = 7 → u ≠ v
theorem pairF.gr {w0 w w' : World} {g0 g1 g2 g3 gl gr si a b : Int} {j : Nat} {ys : Nat → Value} (h : pairF w0 g0 g1 g2 g3 gl gr si a b j ys w) (hg : Gr w w') : pairF w0 g0 g1 g2 g3 gl gr si a b j ys w' := by
  match j, h with
  | 0, h | 1, h | 2, h | 3, h | 4, h | 5, h => exact h
  | 6, h | 7, h => obtain ⟨p, cs, h1, h2, h3, h4⟩ := h; exact ⟨p, cs, h1, h2, h3, hg.blk h4⟩
  | 8, h | 9, h => obtain ⟨p, h1, h2, h3⟩ := h; exact ⟨p, h1, h2, hg.blk h3⟩
  | _ + 10, _ => exact trivial
theorem setRow_gr {w0 w : World} {g : Nat} {cells : Array Value} (hg : Gr w0 w) (hge : w0.heap.size ≤ g) : Gr w0 (w.setRow g cells) :=
  Below.trans hg ⟨rfl, rfl, rfl, by simp [World.setRow], fun k hk => setRow_other w g k cells (by omega)⟩
theorem pairF.at8 {w0 w : World} {g0 g1 g2 g3 gl gr si a b : Int} {ys : Nat → Value} {g : Nat} (v : Value) (hq : ys 6 = .pointer (some ⟨g, 0, none⟩)) (hge : w0.heap.size ≤ g) (hs : w.heap[g]? = some (.cells #[.int .i64 g0, .int .i64 g1, .int .i64 g2, .int .i64 g3, .int .i64 (selI (between 0 3 a) a gl), .int .i64 gr, .int .i64 si] 27 (0, 0))) :
    pairF w0 g0 g1 g2 g3 gl gr si a b 8 (setY ys 8 v) w := ⟨g, hq, hge, hs⟩
theorem pairF.at9 {w0 w : World} {g0 g1 g2 g3 gl gr si a b : Int} {ys : Nat → Value} {g : Nat} (v : Value) (hq : ys 7 = .pointer (some ⟨g, 0, none⟩)) (hge : w0.heap.size ≤ g) (hs : w.heap[g]? = some (.cells #[.int .i64 g0, .int .i64 g1, .int .i64 g2, .int .i64 g3, .int .i64 gl, .int .i64 (selI (between 1 3 b) b gr), .int .i64 si] 27 (0, 0))) :
    pairF w0 g0 g1 g2 g3 gl gr si a b 9 (setY ys 9 v) w := ⟨g, hq, hge, hs⟩
theorem pairD.no {i : Nat} (h6 : i ≠ 6) (h7 : i ≠ 7) (v : Value) (ys : Nat → Value) (j : Nat) : (i < j → pairD i j v (ys j)) ∧ (j < i → pairD j i (ys j) v) :=
  ⟨fun _ h => absurd h h6, fun _ _ h => absurd h h7⟩
/-- A row stored whole into a block that holds one of its size. -/
theorem pairF.set {w0 w w' : World} {g0 g1 g2 g3 gl gr si a b : Int} {j g : Nat} {ys : Nat → Value} {cells : Array Value} (h : pairF w0 g0 g1 g2 g3 gl gr si a b j ys w) (hcs : cells.size = 7)
    (hs : w'.heap[g]? = some (.cells cells 27 (0, 0))) (hb : ∀ k, k ≠ g → w'.heap[k]? = w.heap[k]?) (h8 : j = 8 → ys 6 ≠ .pointer (some ⟨g, 0, none⟩)) (h9 : j = 9 → ys 7 ≠ .pointer (some ⟨g, 0, none⟩)) : pairF w0 g0 g1 g2 g3 gl gr si a b j ys w' := by
  match j, h with
  | 0, h | 1, h | 2, h | 3, h | 4, h | 5, h => exact h
  | 6, h | 7, h =>
    obtain ⟨p, cs, h1, h2, h3, h4⟩ := h
    by_cases e : p = g
    · subst e; exact ⟨p, cells, h1, h2, hcs, hs⟩
    · exact ⟨p, cs, h1, h2, h3, (hb p e).trans h4⟩
  | 8, h =>
    obtain ⟨p, h1, h2, h3⟩ := h
    exact ⟨p, h1, h2, (hb p (by rintro rfl; exact h8 rfl h1)).trans h3⟩
  | 9, h =>
    obtain ⟨p, h1, h2, h3⟩ := h
    exact ⟨p, h1, h2, (hb p (by rintro rfl; exact h9 rfl h1)).trans h3⟩
  | _ + 10, _ => exact trivial

end Go.Proofs.Ytomflpkokcldeaa
