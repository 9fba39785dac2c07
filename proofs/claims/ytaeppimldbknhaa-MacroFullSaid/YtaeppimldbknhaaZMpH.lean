/-
  A row of so many zero bytes, as a text.
-/
import Derived.Deep.OwnRows
import Derived.Test.YtaeppimldbknhaaZSrc
import Derived.Test.YtaeppimldbknhaaZMpG
namespace Go.Proofs.Ytaeppimldbknhaa
set_option linter.unusedSimpArgs false
set_option linter.unusedVariables false
open Go.RowKit Go.Maps Go.Deep
set_option linter.unusedVariables false

/-- So many zero bytes. -/
def zerosL (n : Nat) : List Int := List.replicate n 0
theorem zeros_len (n : Nat) : (zerosL n).length = n := by unfold zerosL; simp
theorem zeros_size (n : Nat) : (strOf (zerosL n)).size = n := (strOf_sz _).trans (zeros_len n)
section
variable {n : Nat} {ops : Array Oper} {Q : Post} {l : List Oper} {e : Nat → Value} {w0 w w' : World} {o : Oper} {U : List Nat} {L As : List HA}
/-- 'make([]byte, n)'. -/
theorem SL.makeU8 {x : Operand} {m : Nat} (hs : SH U w0 w L) (hg : o.guard = none) (hd : dok n o.dst = true) (ho : o.op = .makeSlice 31 x x) (hx : evE e x = .int .i64 (m : Int)) (hm : m ≤ 1000000)
    (h : ∀ g w', SH U w0 w' (L ++ [pt g (bcells (zerosL m)).toArray 5]) → SL Try.prog n ops Q l (dput e o.dst (.slice (some ⟨g, 0, none⟩) m m)) w') : SL Try.prog n ops Q (o :: l) e w := by
  have hmk := run_make_row' (P := Try.prog) 31 5 (.int .u8 0) 1 Try.underlying31 (by kernel_rfl) rfl .i64 .i64 m (by omega) (by omega)
  have he : madeCells #[Value.int .u8 0] m = (bcells (zerosL m)).toArray := by
    apply Array.ext'
    refine List.ext_getElem? fun i => ?_
    by_cases hi : i < m
    · simp [madeCells, bcells, zerosL, hi, Nat.mod_one]
    · simp [madeCells, bcells, zerosL, hi]
  refine SL.val hg hd (w' := w.alloc (.cells (bcells (zerosL m)).toArray 5)) (v := .slice (some ⟨w.heap.size, 0, none⟩) m m) ?_ (h _ _ (hs.alloc _ _))
  unfold execOp
  simp [ho, hx, Sem.run_bind, Sem.run_pure, Result.andThen_ok, hmk, he]
/-- .. as a text. -/
theorem conv_zeros {g m : Nat} (hb : w.heap[g]? = some (.cells (bcells (zerosL m)).toArray 5 (0, 0))) : (convert 31 9 (.slice (some ⟨g, 0, none⟩) m m)).run Try.prog w = .ok (.string (strOf (zerosL m))) w :=
  conv_row (n := m) ⟨by simp [bcells, zeros_len], .inr ⟨g, m, _, rfl, ⟨_, hb⟩, Nat.le_refl _, by simp [bcells, zeros_len], List.take_of_length_le (by simp [bcells, zeros_len])⟩⟩
end
end Go.Proofs.Ytaeppimldbknhaa
