/-
  The law TokenChecks of a token that came in.
-/
import Derived.MakeChecks
import Derived.Test.YtgbmjlajheeciaaDoorRows
import Derived.Test.YtgbmjlajheeciaaDoorZTkW
namespace Go.Proofs.YtgbmjlajheeciaaDoor
set_option linter.unusedSimpArgs false
set_option linter.unusedVariables false
open Go.RowKit
set_option linter.unusedVariables false

theorem tabT_met {w : World} {rest : List (String × DataW Unit)} (h : laidMet Tryd.prog (("internal/strconv.uint64pow10", Rows.laid_internal_strconv_uint64pow10) :: rest) w) : tabT w :=
  tabIs_head2 (g := 0) (by rfl) (by kernel_rfl) (by kernel_rfl) Tryd.underlying111 (by kernel_rfl) (by kernel_rfl) (by kernel_rfl) h
theorem tokIn_kit {w : World} {k c m : Int} {a1 : Option Addr} {n1 c1 : Nat} {z1 : List Int} {s : ByteArray} {a2 : Option Addr} {n2 c2 : Nat} {z2 : List Int} (h : TokIn w k c m a1 n1 c1 z1 s a2 n2 c2 z2) (hT : tabT w) :
    TokKit w (tokI k c m n1 z1 s n2 z2) k c m s a1 a2 n1 c1 n2 c2 (checkR (tokI k c m n1 z1 s n2 z2)) := by
  obtain ⟨h1, h2, h3, h4, h5, h6⟩ := h.rd
  have hm := h.params.rdI.2.2
  unfold reachBytes at h4 h5 h6
  have K := tokKit (c2 := c2) h2 h1 h3 hm (by omega) (by omega) h6 hT
  rw [show strOf (tokI k c m n1 z1 s n2 z2).inters = s from nums_str s] at K
  exact K
end Go.Proofs.YtgbmjlajheeciaaDoor
