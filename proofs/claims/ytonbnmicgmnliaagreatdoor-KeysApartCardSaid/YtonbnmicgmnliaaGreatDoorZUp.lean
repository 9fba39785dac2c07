/-
  Rows of bytes and of numbers, and strings, over this seat's program.
  Worlds in which only blocks of a list may have changed.
-/
import Derived.Laws.BytesArg
import Derived.Test.YtonbnmicgmnliaaGreatDoorRows
import Derived.Test.YtonbnmicgmnliaaGreatDoorZOrd6
import Derived.Test.YtonbnmicgmnliaaGreatDoorZLw4
namespace Go.Proofs.YtonbnmicgmnliaaGreatDoor
set_option linter.unusedSimpArgs false
set_option linter.unusedVariables false
open Go.RowKit

def bcells (l : List Int) : List Value := l.map (Value.int .u8)
def icells (l : List Int) : List Value := l.map (Value.int .i64)
def strOf (l : List Int) : ByteArray := ⟨(l.map fun c => UInt8.ofNat c.toNat).toArray⟩

theorem andNot128 (c : Int) (h0 : 0 ≤ c) (h1 : c < 256) : bits BinOp.andNot IntKind.u8 c 128 = c % 128 := by
  have H : ∀ k : Fin 256, bits BinOp.andNot IntKind.u8 (k.val : Int) 128 = (k.val : Int) % 128 := by decide +kernel
  have := H ⟨c.toNat, by omega⟩
  simpa [Int.toNat_of_nonneg h0] using this
theorem conv_row {w : World} {v : Value} {n : Nat} {l : List Int} (h : HasRow w 5 v n (bcells l)) : (convert 31 9 v).run Tryz.prog w = .ok (.string (strOf l)) w := by
  have hl : l.length = n := by simpa [bcells] using h.1
  rcases h.2 with ⟨rfl, rfl⟩ | ⟨g, cap, cur, rfl, hh, hn, hc, ht⟩
  · have : l = [] := List.eq_nil_of_length_eq_zero hl
    subst this
    exact run_convert_bytes_nil w _ 5 Tryz.underlying31 Tryz.underlying5 0 0 _ Tryz.underlying9
  · refine run_convert_bytes_arg w _ 5 Tryz.underlying31 Tryz.underlying5 g 0 n cap l hl (fun i hi => ?_) _ Tryz.underlying9
    rw [Nat.zero_add]
    refine h.cells (g := g) rfl i _ ?_
    simp [bcells, List.getD, List.getElem?_eq_getElem (show i < l.length by omega)]
end Go.Proofs.YtonbnmicgmnliaaGreatDoor

namespace Go.Proofs.YtonbnmicgmnliaaGreatDoor
set_option linter.unusedSimpArgs false
set_option linter.unusedVariables false
open Go.RowKit
set_option linter.unusedVariables false

/-- Of the blocks that were there only those of a list may have changed; there may be new ones. -/
structure Upd (lv : List Nat) (w w' : World) : Prop where
  os : w'.os = w.os
  tape : w'.tape = w.tape
  output : w'.output = w.output
  size : w.heap.size ≤ w'.heap.size
  block : ∀ k, k < w.heap.size → k ∉ lv → w'.heap[k]? = w.heap[k]?
theorem Upd.refl (lv : List Nat) (w : World) : Upd lv w w := ⟨rfl, rfl, rfl, Nat.le_refl _, fun _ _ _ => rfl⟩
theorem Upd.of_gr {lv : List Nat} {w w' : World} (h : Gr w w') : Upd lv w w' := ⟨h.os, h.tape, h.output, h.size, fun k hk _ => h.block k hk⟩
theorem Upd.trans {a b c : World} {K : List Nat} (h : Upd K a b) (k : Upd K b c) : Upd K a c :=
  ⟨k.os.trans h.os, k.tape.trans h.tape, k.output.trans h.output, Nat.le_trans h.size k.size, fun i hi hn => (k.block i (Nat.lt_of_lt_of_le hi h.size) hn).trans (h.block i hi hn)⟩
theorem Upd.gr {a b c : World} {K : List Nat} (h : Upd K a b) (k : Gr b c) : Upd K a c := h.trans (Upd.of_gr k)
theorem Upd.setCell {K : List Nat} {a w : World} (h : Upd K a w) {p : Addr} (hp : p.block ∈ K) (u : Value) : Upd K a (w.setCell p u) :=
  ⟨by rw [← h.os]; simp [World.setCell], by rw [← h.tape]; simp [World.setCell], by rw [← h.output]; simp [World.setCell], by have := h.size; simpa using this, fun k hk hn => by
    rw [Below.heap_setCell _ _ _ _ (fun e => hn (by rw [e]; exact hp))]; exact h.block k hk hn⟩
theorem Upd.drew {K : List Nat} {a w : World} (h : Upd K a w) : Upd K a w.drew := ⟨h.os, h.tape, h.output, h.size, h.block⟩
theorem Upd.drewN {K : List Nat} {a w : World} (h : Upd K a w) (n : Nat) : Upd K a (w.drewN n) := h.trans (Upd.of_gr ((Gr.refl w).drewN n))
theorem Upd.alloc {K : List Nat} {a w : World} (h : Upd K a w) (o : Obj) : Upd K a (w.alloc o) := h.trans (Upd.of_gr ((Gr.refl w).alloc o))
theorem Upd.mono {K K' : List Nat} {a b : World} (h : Upd K a b) (hk : ∀ k ∈ K, k < a.heap.size → k ∈ K') : Upd K' a b := ⟨h.os, h.tape, h.output, h.size, fun k h1 h2 => h.block k h1 fun hm => h2 (hk k hm h1)⟩
theorem Upd.new {K : List Nat} {a w : World} (h : Upd K a w) {p : Addr} (hp : a.heap.size ≤ p.block) (u : Value) : Upd K a (w.setCell p u) :=
  ⟨by rw [← h.os]; simp [World.setCell], by rw [← h.tape]; simp [World.setCell], by rw [← h.output]; simp [World.setCell], by have := h.size; simpa using this, fun k hk hn => by
    rw [Below.heap_setCell _ _ _ _ (by omega)]; exact h.block k hk hn⟩
theorem Upd.blk {K : List Nat} {a b : World} (h : Upd K a b) {g : Nat} {o : Obj} (hg : a.heap[g]? = some o) (hn : g ∉ K) : b.heap[g]? = some o :=
  (h.block g (Array.getElem?_eq_some_iff.1 hg).1 hn).trans hg
theorem Gr.upd {w wr W : World} {K : List Nat} (h : Gr w wr) (hu : Upd K wr W) (hK : ∀ k ∈ K, w.heap.size ≤ k) : Gr w W :=
  ⟨hu.os.trans h.os, hu.tape.trans h.tape, hu.output.trans h.output, Nat.le_trans h.size hu.size, fun k hk => (hu.block k (Nat.lt_of_lt_of_le hk h.size) fun hm => by have := hK k hm; omega).trans (h.block k hk)⟩
end Go.Proofs.YtonbnmicgmnliaaGreatDoor
