/-
  Keys with texts: the law UdkFull, walked.
-/
import Derived.Deep.OwnRows
import Derived.Test.YtdfohcnejdhkiaaDoorZUdH
namespace Go.Proofs.YtdfohcnejdhkiaaDoor
set_option linter.unusedSimpArgs false
set_option linter.unusedVariables false
open Go.RowKit
set_option linter.unusedVariables false

def d4 (n : Nat) : List UInt8 := List.replicate n 68
def l1 (n : Nat) : Txs := noL.set 0 (d4 n)
theorem KAt.fresh (w : World) : KAt (w.alloc (.cells #[.string ⟨#[]⟩, .string ⟨#[]⟩, .string ⟨#[]⟩, .string ⟨#[]⟩, .string ⟨#[]⟩, .string ⟨#[]⟩, .string ⟨#[]⟩, .string ⟨#[]⟩, .string ⟨#[]⟩, .string ⟨#[]⟩, .string ⟨#[]⟩, .string ⟨#[]⟩, .string ⟨#[]⟩, .string ⟨#[]⟩, .string ⟨#[]⟩, .string ⟨#[]⟩, .string ⟨#[]⟩, .string ⟨#[]⟩, .bool false] 27)) w.heap.size noL false := ⟨heap_alloc_new w _, rfl⟩
def lA : Txs := (noL.set 0 [65]).set 1 [66, 67]
theorem dfnA : dfnR noL false false true [49, 55, 47, 52, 49, 59, 49, 56, 47, 52, 50, 52, 51] = (lA, true, 0) := by decide +kernel
theorem dfnB : dfnR lA true false false [49, 55, 47, 52, 52] = (lA, true, 6) := by decide +kernel
theorem dfnC : dfnR lA true false false [50, 50, 47, 52, 52] = (lA, true, 3) := by decide +kernel
set_option maxRecDepth 100000 in
set_option maxHeartbeats 1000000 in
theorem awake_any (w : World) (hM : MaxOk w) : Calls Tryd.prog 6 #[] w fun e w' => e = .returned (.bool true) ∧ Gr w w' := by
  have hg0 := (Gr.refl w).alloc (.cells #[.string ⟨#[]⟩, .string ⟨#[]⟩, .string ⟨#[]⟩, .string ⟨#[]⟩, .string ⟨#[]⟩, .string ⟨#[]⟩, .string ⟨#[]⟩, .string ⟨#[]⟩, .string ⟨#[]⟩, .string ⟨#[]⟩, .string ⟨#[]⟩, .string ⟨#[]⟩, .string ⟨#[]⟩, .string ⟨#[]⟩, .string ⟨#[]⟩, .string ⟨#[]⟩, .string ⟨#[]⟩, .string ⟨#[]⟩, .bool false] 27)
  have hK0 := KAt.fresh w
  have hu0 : usedL noL ≤ 1000000 := by decide
  have huA : usedL lA ≤ 1000000 := by decide
  have hd1 := define_any false true [49, 55, 47, 52, 49, 59, 49, 56, 47, 52, 50, 52, 51] hK0 (by decide) (hM.gr hg0) hu0
  rw [dfnA, show bsl [49, 55, 47, 52, 49, 59, 49, 56, 47, 52, 50, 52, 51] = ⟨#[49, 55, 47, 52, 49, 59, 49, 56, 47, 52, 50, 52, 51]⟩ from rfl] at hd1
  have hd2 := fun (W : World) (h : KAt W w.heap.size lA true) (hg : Gr w W) => define_any false false [49, 55, 47, 52, 52] h (by decide) (hM.gr hg) huA
  have hd3 := fun (W : World) (h : KAt W w.heap.size lA true) (hg : Gr w W) => define_any false false [50, 50, 47, 52, 52] h (by decide) (hM.gr hg) huA
  rw [dfnB, show bsl [49, 55, 47, 52, 52] = ⟨#[49, 55, 47, 52, 52]⟩ from rfl] at hd2
  rw [dfnC, show bsl [50, 50, 47, 52, 52] = ⟨#[50, 50, 47, 52, 52]⟩ from rfl] at hd3
  have hget := fun (W : World) (h : KAt W w.heap.size lA true) => get_any 18 h
  rw [show getZ lA 18 = [66, 67] by decide, show bsl [66, 67] = ⟨#[66, 67]⟩ from rfl, show (!([66, 67] : List UInt8).isEmpty) = true from rfl] at hget
  clear hK0
  go_enter Tryd.func6, Tryd.ntmps6
  go_wp2_with (first
    | (go_at_call 8; (with_reducible refine hd1.mono ?_); rintro e w1 ⟨rfl, hK1, hu1⟩; have hg1 : Gr w w1 := hg0.upd hu1 (by simp))
    | (go_at_call 15; (with_reducible refine (hget _ hK1).mono ?_); rintro e w2 ⟨rfl, rfl⟩)
    | (go_at_call 20; (with_reducible refine (locked_any hK1).mono ?_); rintro e w3 ⟨rfl, rfl⟩)
    | (go_at_call 8; (with_reducible refine (hd2 _ hK1 hg1).mono ?_); rintro e w4 ⟨rfl, hK4, hu4⟩; have hg4 : Gr w w4 := hg1.upd hu4 (by simp))
    | (go_at_call 8; (with_reducible refine (hd3 _ hK4 hg4).mono ?_); rintro e w5 ⟨rfl, hK5, hu5⟩; have hg5 : Gr w w5 := hg4.upd hu5 (by simp)))
  go_ret
  exact ⟨rfl, hg5⟩
end Go.Proofs.YtdfohcnejdhkiaaDoor
