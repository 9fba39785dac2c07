/-
  A key that comes in; a table that is laid.
  The law KeysApart.
-/
import Derived.ChangeSame
import Derived.Deep.Fields
import Derived.Deep.Slices
import Derived.OpenShut
import Derived.Test.YtonbnmicgmnliaaGreatDoorZLw4
import Derived.Test.YtonbnmicgmnliaaGreatDoorZOrd6
import Derived.Test.YtonbnmicgmnliaaGreatDoorZTkQ
import Derived.Test.YtonbnmicgmnliaaGreatDoorZKyF
import Derived.Test.YtonbnmicgmnliaaGreatDoorZKyX
namespace Go.Proofs.YtonbnmicgmnliaaGreatDoor
set_option linter.unusedSimpArgs false
set_option linter.unusedVariables false
open Go.ChangeShapes Go.WideShapes Go.Deep Go.RowKit
set_option linter.unusedVariables false

def EvIn (c : Int) : Prop := 0 ≤ c ∧ c < 256
set_option maxRecDepth 100000 in
theorem open_ev {H : Type} {enc : TypeId × Value → H} {w : World} {base b0 : Nat} {spare : Nat → Bool} {held : Bool} {r : Reach} {v : Value} {d : DataW H} {p : List MemPlace} {X : Prop}
    (hv : Value.okWide Tryz.prog w r b0 23 v) (h : DataW.Trod enc Tryz.prog w base spare held 23 v d p) (hs : X) :
    ∃ (k c : Int) (sh ct : Bool), v = .agg #[.int .i64 k, .int .u8 c, .bool sh, .bool ct] ∧ EvIn c := by
  have hC : Tryz.prog.cellsOf 23 = 4 := by kernel_rfl
  have hC1 : Tryz.prog.cellsOf 3 = 1 := by kernel_rfl
  have hC2 : Tryz.prog.cellsOf 5 = 1 := by kernel_rfl
  have hC3 : Tryz.prog.cellsOf 4 = 1 := by kernel_rfl
  obtain ⟨cs, rfl, hsz⟩ := okWide_struct Tryz.underlying23 hv
  obtain ⟨l⟩ := cs
  match l, hsz.trans hC with
  | [x0, x1, x2, x3], _ =>
    obtain ⟨fuel, hf⟩ := h
    obtain ⟨xs, n, _, hx, _, hlen, hg⟩ := DataW.trod_struct Tryz.underlying23 hf
    match xs, hlen with
    | [y0, y1, y2, y3], _ =>
      have q0 := hg 0 _ rfl
      have q1 := hg 1 _ rfl
      have q2 := hg 2 _ rfl
      have q3 := hg 3 _ rfl
      simp [hC1, hC2, hC3, Value.cells] at q0 q1 q2 q3
      obtain ⟨k, e0, _, wk⟩ := DataW.trod_int Tryz.underlying3 q0
      obtain ⟨c, e1, _, wc⟩ := DataW.trod_int Tryz.underlying5 q1
      obtain ⟨sh, e2, _⟩ := DataW.trod_bool Tryz.underlying4 q2
      obtain ⟨ct, e3, _⟩ := DataW.trod_bool Tryz.underlying4 q3
      simp at e0 e1 e2 e3
      subst e0; subst e1; subst e2; subst e3
      exact ⟨k, c, sh, ct, rfl, int_u8 wc⟩
theorem tabT_met22 {w : World} {rest : List (String × DataW Unit)} (h : laidMet Tryz.prog (("internal/strconv.uint64pow10", Rows.laid_internal_strconv_uint64pow10) :: rest) w) : tabT w :=
  tabIs_head2 (g := 1) (by rfl) (by kernel_rfl) (by kernel_rfl) Tryz.underlying131 (by kernel_rfl) (by kernel_rfl) (by kernel_rfl) h
end Go.Proofs.YtonbnmicgmnliaaGreatDoor

namespace Go.Proofs.YtonbnmicgmnliaaGreatDoor
set_option linter.unusedSimpArgs false
set_option linter.unusedVariables false
open Go.RowKit
set_option linter.unusedVariables false

theorem apart_laid {w : World} (h : laidMetH Tryz.prog Rows.keysApartRow.laid w) : tabT w := by
  unfold Rows.keysApartRow at h
  rw [MakeChecks.laidMetH_plain _ _ _ (by kernel_rfl)] at h
  exact tabT_met22 (laidMet_tail2 (laidMet_tail2 h))
theorem apart_law (ka ca : Int) (sa ta : Bool) (kb cb : Int) (sb tb ei : Bool) (w : World) (w0 : EvIn ca) (w1 : EvIn cb) (hlaid : laidMetH Tryz.prog Rows.keysApartRow.laid w) (hsh : w.ShapedOpen Tryz.prog) :
    Calls Tryz.prog 3 #[.agg #[.int .i64 ka, .int .u8 ca, .bool sa, .bool ta], .agg #[.int .i64 kb, .int .u8 cb, .bool sb, .bool tb], .bool ei] w fun e w' => e = .returned (.bool true) ∧ Gr w w' :=
  apart_walk ka ca kb cb sa ta sb tb ei w (apart_laid hlaid) w0 w1
end Go.Proofs.YtonbnmicgmnliaaGreatDoor
