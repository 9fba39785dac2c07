/-
  The laws' fixed fact of the parser, walked; the document's Split as the laws use it.
-/
import Derived.Lib.SlBytesConst
import Derived.Test.YtgbmjlajheeciaaDoorZPdC
import Derived.Test.YtgbmjlajheeciaaDoorZPcQ
namespace Go.Proofs.YtgbmjlajheeciaaDoor
set_option linter.unusedSimpArgs false
set_option linter.unusedVariables false
open Go.RowKit

theorem conv_rd {w : World} {a : Option Addr} {n cap : Nat} {l : List Int} (h : Rd w a n (bcells l)) : (convert 23 9 (.slice a n cap)).run Tryd.prog w = .ok (.string (strOf l)) w := by
  have hl : l.length = n := by simpa [bcells] using h.1
  rcases h.2 with h0 | ⟨b, off, rfl, hc⟩
  · subst h0
    have : l = [] := List.eq_nil_of_length_eq_zero hl
    subst this
    cases a with
    | none => exact run_convert_bytes_nil w _ 5 Tryd.underlying23 Tryd.underlying5 0 cap _ Tryd.underlying9
    | some x =>
      have hl : (loadCells x 0).run Tryd.prog w = .ok (([] : List Int).map (Value.int .u8)).toArray w := run_loadCells_list (P := Tryd.prog) w x [] (by simp)
      rw [run_convert_bytes_string w 23 9 5 _ 0 cap Tryd.underlying23 Tryd.underlying5 Tryd.underlying9, run_bytesToString w _ 0 cap [] hl]
      simp [strOf, ByteArray.empty, ByteArray.emptyWithCapacity]
      rfl
  · refine run_convert_bytes_arg w _ 5 Tryd.underlying23 Tryd.underlying5 b off n cap l hl (fun i hi => ?_) _ Tryd.underlying9
    exact hc i _ (by simp [bcells, List.getD, List.getElem?_eq_getElem (show i < l.length by omega)])
end Go.Proofs.YtgbmjlajheeciaaDoor
