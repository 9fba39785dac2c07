/-
  A key and a terminal that come in; the law KeysModes.
-/
import Derived.ChangeSame
import Derived.Deep.Fields
import Derived.Deep.Slices
import Derived.OpenShut
import Derived.Test.YtonbnmicgmnliaaDoorZLw4
import Derived.Test.YtonbnmicgmnliaaDoorZOrd6
import Derived.Test.YtonbnmicgmnliaaDoorZKyG
namespace Go.Proofs.YtonbnmicgmnliaaDoor
set_option linter.unusedSimpArgs false
set_option linter.unusedVariables false
open Go.ChangeShapes Go.WideShapes Go.Deep Go.RowKit
set_option linter.unusedVariables false

def EvIn (c : Int) : Prop := 0 ≤ c ∧ c < 256
set_option maxRecDepth 100000 in
theorem open_ev {H : Type} {enc : TypeId × Value → H} {w : World} {base b0 : Nat} {spare : Nat → Bool} {held : Bool} {r : Reach} {v : Value} {d : DataW H} {p : List MemPlace} {X : Prop}
    (hv : Value.okWide Tryd.prog w r b0 23 v) (h : DataW.Trod enc Tryd.prog w base spare held 23 v d p) (hs : X) :
    ∃ (k c : Int) (sh ct : Bool), v = .agg #[.int .i64 k, .int .u8 c, .bool sh, .bool ct] ∧ EvIn c := by
  have hC : Tryd.prog.cellsOf 23 = 4 := by kernel_rfl
  have hC1 : Tryd.prog.cellsOf 3 = 1 := by kernel_rfl
  have hC2 : Tryd.prog.cellsOf 5 = 1 := by kernel_rfl
  have hC3 : Tryd.prog.cellsOf 4 = 1 := by kernel_rfl
  obtain ⟨cs, rfl, hsz⟩ := okWide_struct Tryd.underlying23 hv
  obtain ⟨l⟩ := cs
  match l, hsz.trans hC with
  | [x0, x1, x2, x3], _ =>
    obtain ⟨fuel, hf⟩ := h
    obtain ⟨xs, n, _, hx, _, hlen, hg⟩ := DataW.trod_struct Tryd.underlying23 hf
    match xs, hlen with
    | [y0, y1, y2, y3], _ =>
      have q0 := hg 0 _ rfl
      have q1 := hg 1 _ rfl
      have q2 := hg 2 _ rfl
      have q3 := hg 3 _ rfl
      simp [hC1, hC2, hC3, Value.cells] at q0 q1 q2 q3
      obtain ⟨k, e0, _, wk⟩ := DataW.trod_int Tryd.underlying3 q0
      obtain ⟨c, e1, _, wc⟩ := DataW.trod_int Tryd.underlying5 q1
      obtain ⟨sh, e2, _⟩ := DataW.trod_bool Tryd.underlying4 q2
      obtain ⟨ct, e3, _⟩ := DataW.trod_bool Tryd.underlying4 q3
      simp at e0 e1 e2 e3
      subst e0; subst e1; subst e2; subst e3
      exact ⟨k, c, sh, ct, rfl, int_u8 wc⟩
def BdIn (m : Int) (s : ByteArray) : Prop := (0 ≤ m ∧ m < 4294967296) ∧ s.size ≤ maxLen
theorem int_u32 {c : Int} (h : (Lit.int .u32 c).wf = true) : 0 ≤ c ∧ c < 4294967296 := by
  have := bounds_u32 h
  omega
set_option maxRecDepth 100000 in
theorem open_bd {H : Type} {enc : TypeId × Value → H} {w : World} {base b0 : Nat} {spare : Nat → Bool} {held : Bool} {r : Reach} {v : Value} {d : DataW H} {p : List MemPlace} {X : Prop}
    (hv : Value.okWide Tryd.prog w r b0 27 v) (h : DataW.Trod enc Tryd.prog w base spare held 27 v d p) (hs : X) :
    ∃ (m lv : Int) (ei : Bool) (s : ByteArray), v = .agg #[.int .u32 m, .int .i64 lv, .bool ei, .string s] ∧ BdIn m s := by
  have hC : Tryd.prog.cellsOf 27 = 4 := by kernel_rfl
  have hC1 : Tryd.prog.cellsOf 25 = 1 := by kernel_rfl
  have hC2 : Tryd.prog.cellsOf 3 = 1 := by kernel_rfl
  have hC3 : Tryd.prog.cellsOf 4 = 1 := by kernel_rfl
  have hC4 : Tryd.prog.cellsOf 9 = 1 := by kernel_rfl
  obtain ⟨cs, rfl, hsz⟩ := okWide_struct Tryd.underlying27 hv
  obtain ⟨l⟩ := cs
  match l, hsz.trans hC with
  | [x0, x1, x2, x3], _ =>
    obtain ⟨fuel, hf⟩ := h
    obtain ⟨xs, n, _, hx, _, hlen, hg⟩ := DataW.trod_struct Tryd.underlying27 hf
    match xs, hlen with
    | [y0, y1, y2, y3], _ =>
      have q0 := hg 0 _ rfl
      have q1 := hg 1 _ rfl
      have q2 := hg 2 _ rfl
      have q3 := hg 3 _ rfl
      simp [hC1, hC2, hC3, hC4, Value.cells] at q0 q1 q2 q3
      obtain ⟨m, e0, _, wm⟩ := DataW.trod_int Tryd.underlying25 q0
      obtain ⟨lv, e1, _, _⟩ := DataW.trod_int Tryd.underlying3 q1
      obtain ⟨ei, e2, _⟩ := DataW.trod_bool Tryd.underlying4 q2
      obtain ⟨s, e3, _, ws⟩ := DataW.trod_string Tryd.underlying9 q3
      simp at e0 e1 e2 e3
      subst e0; subst e1; subst e2; subst e3
      exact ⟨m, lv, ei, s, rfl, int_u32 wm, ws⟩
theorem u32_bits {m : Int} (h : 0 ≤ m ∧ m < 4294967296) : ∃ M : BitVec 32, m = (M.toNat : Int) := ⟨BitVec.ofNat 32 m.toNat, by rw [BitVec.toNat_ofNat]; omega⟩
theorem tabT_met22 {w : World} {rest : List (String × DataW Unit)} (h : laidMet Tryd.prog (("internal/strconv.uint64pow10", Rows.laid_internal_strconv_uint64pow10) :: rest) w) : tabT w :=
  tabIs_head2 (g := 3) (by rfl) (by kernel_rfl) (by kernel_rfl) Tryd.underlying127 (by kernel_rfl) (by kernel_rfl) (by kernel_rfl) h
theorem MaxOk.of22 {w : World} (h : w.ShapedOpen Tryd.prog) : MaxOk w := Tryd.laysM145.s1_3 w h
theorem modes_laid {w : World} (h : laidMetH Tryd.prog Rows.keysModesRow.laid w) : tabT w := by
  unfold Rows.keysModesRow at h
  rw [MakeChecks.laidMetH_plain _ _ _ (by kernel_rfl)] at h
  exact tabT_met22 (laidMet_tail2 (laidMet_tail2 h))
theorem modes_law (k c : Int) (sh ct : Bool) (m lv : Int) (ei : Bool) (s : ByteArray) (o : Int) (w : World) (w0 : EvIn c) (w1 : BdIn m s) (w2 : (Lit.int .u32 o).wf = true) (hlaid : laidMetH Tryd.prog Rows.keysModesRow.laid w) (hsh : w.ShapedOpen Tryd.prog) :
    Calls Tryd.prog 3 #[.agg #[.int .i64 k, .int .u8 c, .bool sh, .bool ct], .agg #[.int .u32 m, .int .i64 lv, .bool ei, .string s], .int .u32 o] w fun e w' => e = .returned (.bool true) ∧ Gr w w' := by
  obtain ⟨M, rfl⟩ := u32_bits w1.1
  obtain ⟨O, rfl⟩ := u32_bits (int_u32 w2)
  have := modes_walk k c sh ct M O lv ei s.data.toList w (modes_laid hlaid) (MaxOk.of22 hsh) w0
  rw [bsl_of s] at this
  exact this
end Go.Proofs.YtonbnmicgmnliaaDoor
