/-
  A part of a block that is known whole: stored, and loaded.
-/
import Derived.Deep.MidRow
import Derived.Test.YtdfohcnejdhkiaaDoorZSrc
import Derived.Test.YtdfohcnejdhkiaaDoorZUp
namespace Go.Proofs.YtdfohcnejdhkiaaDoor
set_option linter.unusedSimpArgs false
set_option linter.unusedVariables false
open Go.RowKit
set_option linter.unusedVariables false

/-! ### A part of a block that is known whole is stored -/
def setL (C : Array Value) : Nat → List Value → Array Value
  | _, [] => C
  | o, v :: r => setL (C.setIfInBounds o v) (o + 1) r
theorem setCells_blk {g : Nat} {t : TypeId} : ∀ (vs : List Value) (o : Nat) (w : World) (C : Array Value), w.heap[g]? = some (.cells C t (0, 0)) → (w.setCells g o vs).heap[g]? = some (.cells (setL C o vs) t (0, 0)) ∧ Upd [g] w (w.setCells g o vs) ∧ (w.setCells g o vs).heap.size = w.heap.size := by
  intro vs
  induction vs with
  | nil => intro o w C h; exact ⟨h, .refl _ _, rfl⟩
  | cons v r ih =>
    intro o w C h
    obtain ⟨h1, h2, h3⟩ := ih (o + 1) (w.setCell ⟨g, o, none⟩ v) (C.setIfInBounds o v) (blk_set h o v)
    exact ⟨h1, (Upd.of_setCell w g o v).trans h2, by rw [World.setCells, h3]; simp⟩
theorem wpList_store_part {P : Program} {ops : Array Oper} {rest : List Oper} {o : Oper} {a : Act} {w : World} {Q : Exit → Act → World → Prop}
    (hgd : o.guard = none) (ty : TypeId) (x y : Operand) (ho : o.op = .store ty x y) (g off : Nat) (cells : Array Value)
    (hx : a.eval x = .pointer (some ⟨g, off, none⟩)) (hy : a.eval y = .agg cells) (t : TypeId) (old new : Array Value) (hg : w.heap[g]? = some (.cells old t (0, 0))) (hroom : off + cells.size ≤ old.size)
    (hi : (P.info? ty).map (·.size) = some cells.size) (h1 : cells.all (·.oneCell') = true) (hnew : setL old off cells.toList = new)
    (h : ∀ w', w'.heap[g]? = some (.cells new t (0, 0)) → Upd [g] w w' → w'.heap.size = w.heap.size → wpList P ops Q rest (a.put o.dst undef) w') : wpList P ops Q (o :: rest) a w := by
  refine wpList_store_mid hgd ty x y ho g off cells hx hy (fun j hj => ?_) hi h1 ?_
  · refine ⟨?_, by simp [World.frozen?, hg]⟩
    have : off + j < old.size := by omega
    simp [World.cell?, hg, this]
  · obtain ⟨k1, k2, k3⟩ := setCells_blk (t := t) cells.toList off w old hg
    rw [hnew] at k1
    exact h _ k1 k2 k3
theorem wpList_load_whole {P : Program} {ops : Array Oper} {rest : List Oper} {op : Oper} {a : Act} {w : World} {Q : Exit → Act → World → Prop} (hgd : op.guard = none) (ty : TypeId) (x : Operand) (ho : op.op = .load ty x)
    (b o : Nat) (hx : a.eval x = .pointer (some ⟨b, o, none⟩)) (cs : Array Value) (d : TypeDesc) (hc : w.rangeAt b o cs.toList)
    (hu : P.underlying ty = some d) (hd : d.isRow = true) (hi : (P.info? ty).map (·.size) = some cs.toList.length)
    (h : wpList P ops Q rest (a.put op.dst (.agg cs)) w) : wpList P ops Q (op :: rest) a w :=
  wpList_load_mid hgd ty x ho b o hx cs.toList d hc hu hd hi (by simpa using h)
end Go.Proofs.YtdfohcnejdhkiaaDoor
