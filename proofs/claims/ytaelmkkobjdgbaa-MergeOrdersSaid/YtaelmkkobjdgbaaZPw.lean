/-
  Worlds in which only blocks of a list may have changed.
  A part of a block that is known whole: stored, and loaded.
-/
import Derived.Deep.MidRow
import Derived.Test.YtaelmkkobjdgbaaZLw4
import Derived.Test.YtaelmkkobjdgbaaZSrc
namespace Go.Proofs.Ytaelmkkobjdgbaa
set_option linter.unusedSimpArgs false
set_option linter.unusedVariables false
open Go.RowKit
set_option linter.unusedVariables false

/-- Of the blocks that were there only those of a list may have changed; there may be new ones. -/
structure Upd (lv : List Nat) (w w' : World) : Prop where
  os : w'.os = w.os
  tape : w'.tape = w.tape
  output : w'.output = w.output
  size : w.heap.size ≤ w'.heap.size
  block : ∀ k, k < w.heap.size → k ∉ lv → w'.heap[k]? = w.heap[k]?
theorem Upd.refl (lv : List Nat) (w : World) : Upd lv w w := ⟨rfl, rfl, rfl, Nat.le_refl _, fun _ _ _ => rfl⟩
theorem Upd.of_gr {lv : List Nat} {w w' : World} (h : Gr w w') : Upd lv w w' := ⟨h.os, h.tape, h.output, h.size, fun k hk _ => h.block k hk⟩
theorem Upd.trans {a b c : World} {K : List Nat} (h : Upd K a b) (k : Upd K b c) : Upd K a c :=
  ⟨k.os.trans h.os, k.tape.trans h.tape, k.output.trans h.output, Nat.le_trans h.size k.size, fun i hi hn => (k.block i (Nat.lt_of_lt_of_le hi h.size) hn).trans (h.block i hi hn)⟩
theorem Upd.gr {a b c : World} {K : List Nat} (h : Upd K a b) (k : Gr b c) : Upd K a c := h.trans (Upd.of_gr k)
theorem Upd.setCell {K : List Nat} {a w : World} (h : Upd K a w) {p : Addr} (hp : p.block ∈ K) (u : Value) : Upd K a (w.setCell p u) :=
  ⟨by rw [← h.os]; simp [World.setCell], by rw [← h.tape]; simp [World.setCell], by rw [← h.output]; simp [World.setCell], by have := h.size; simpa using this, fun k hk hn => by
    rw [Below.heap_setCell _ _ _ _ (fun e => hn (by rw [e]; exact hp))]; exact h.block k hk hn⟩
theorem Upd.drew {K : List Nat} {a w : World} (h : Upd K a w) : Upd K a w.drew := ⟨h.os, h.tape, h.output, h.size, h.block⟩
theorem Upd.alloc {K : List Nat} {a w : World} (h : Upd K a w) (o : Obj) : Upd K a (w.alloc o) := h.trans (Upd.of_gr ((Gr.refl w).alloc o))
theorem Upd.of_setCell (w : World) (g i : Nat) (u : Value) : Upd [g] w (w.setCell ⟨g, i, none⟩ u) := (Upd.refl _ _).setCell (by simp) u
theorem Upd.mono {K K' : List Nat} {a b : World} (h : Upd K a b) (hk : ∀ k ∈ K, k < a.heap.size → k ∈ K') : Upd K' a b := ⟨h.os, h.tape, h.output, h.size, fun k h1 h2 => h.block k h1 fun hm => h2 (hk k hm h1)⟩
theorem Upd.new {K : List Nat} {a w : World} (h : Upd K a w) {p : Addr} (hp : a.heap.size ≤ p.block) (u : Value) : Upd K a (w.setCell p u) :=
  ⟨by rw [← h.os]; simp [World.setCell], by rw [← h.tape]; simp [World.setCell], by rw [← h.output]; simp [World.setCell], by have := h.size; simpa using this, fun k hk hn => by
    rw [Below.heap_setCell _ _ _ _ (by omega)]; exact h.block k hk hn⟩
theorem Upd.blk {K : List Nat} {a b : World} (h : Upd K a b) {g : Nat} {o : Obj} (hg : a.heap[g]? = some o) (hn : g ∉ K) : b.heap[g]? = some o :=
  (h.block g (Array.getElem?_eq_some_iff.1 hg).1 hn).trans hg
theorem Gr.upd {w wr W : World} {K : List Nat} (h : Gr w wr) (hu : Upd K wr W) (hK : ∀ k ∈ K, w.heap.size ≤ k) : Gr w W :=
  ⟨hu.os.trans h.os, hu.tape.trans h.tape, hu.output.trans h.output, Nat.le_trans h.size hu.size, fun k hk => (hu.block k (Nat.lt_of_lt_of_le hk h.size) fun hm => by have := hK k hm; omega).trans (h.block k hk)⟩
theorem Upd.of_grown {w w' : World} {row : Option Nat} (h : w.grownBy w' row) : Upd row.toList w w' :=
  ⟨h.os, h.tape, h.output, h.size, fun k hk hn => h.block k hk fun e => hn (by simp [← e])⟩
end Go.Proofs.Ytaelmkkobjdgbaa

namespace Go.Proofs.Ytaelmkkobjdgbaa
set_option linter.unusedSimpArgs false
set_option linter.unusedVariables false
open Go.RowKit
set_option linter.unusedVariables false

/-! ### A part of a block that is known whole is stored -/
def setL (C : Array Value) : Nat → List Value → Array Value
  | _, [] => C
  | o, v :: r => setL (C.setIfInBounds o v) (o + 1) r
theorem setCells_blk {g : Nat} {t : TypeId} : ∀ (vs : List Value) (o : Nat) (w : World) (C : Array Value), w.heap[g]? = some (.cells C t (0, 0)) → (w.setCells g o vs).heap[g]? = some (.cells (setL C o vs) t (0, 0)) ∧ Upd [g] w (w.setCells g o vs) ∧ (w.setCells g o vs).heap.size = w.heap.size := by
  intro vs
  induction vs with
  | nil => intro o w C h; exact ⟨h, .refl _ _, rfl⟩
  | cons v r ih =>
    intro o w C h
    obtain ⟨h1, h2, h3⟩ := ih (o + 1) (w.setCell ⟨g, o, none⟩ v) (C.setIfInBounds o v) (blk_set h o v)
    exact ⟨h1, (Upd.of_setCell w g o v).trans h2, by rw [World.setCells, h3]; simp⟩
end Go.Proofs.Ytaelmkkobjdgbaa
