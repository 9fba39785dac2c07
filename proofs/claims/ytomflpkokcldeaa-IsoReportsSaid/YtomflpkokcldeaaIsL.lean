/-
  An argument that is a state, opened to its seven numbers.
-/
import Derived.Test.YtomflpkokcldeaaRows
import Derived.ProofKit
import Derived.OpenShut
namespace Go.Proofs.Ytomflpkokcldeaa
set_option linter.unusedSimpArgs false
set_option linter.unusedVariables false
open Go.ChangeShapes Go.WideShapes Go.ChangeAt Go.RowKit

theorem open_state10 {H : Type} {enc : TypeId × Value → H} {w : World} {base b0 : Nat} {spare : Nat → Bool} {held : Bool} {r : Reach} {v : Value} {d : DataW H} {p : List MemPlace}
    (hv : Value.okWide Try.prog w r b0 24 v) (h : DataW.Trod enc Try.prog w base spare held 24 v d p) :
    ∃ x0 x1 x2 x3 x4 x5 x6 : Int, v = .agg #[.int .i64 x0, .int .i64 x1, .int .i64 x2, .int .i64 x3, .int .i64 x4, .int .i64 x5, .int .i64 x6] := by
  have hC : Try.prog.cellsOf 24 = 7 := by kernel_rfl
  have hC3 : Try.prog.cellsOf 3 = 1 := by kernel_rfl
  have hC4 : Try.prog.cellsOf 22 = 4 := by kernel_rfl
  obtain ⟨cs, rfl, hsz⟩ := okWide_struct Try.underlying24 hv
  obtain ⟨l⟩ := cs
  match l, hsz.trans hC with
  | [c0, c1, c2, c3, c4, c5, c6], _ =>
    obtain ⟨fuel, hf⟩ := h
    obtain ⟨xs, n, _, hx, _, hlen, hg⟩ := DataW.trod_struct Try.underlying24 hf
    match xs, hlen with
    | [y0, y1, y2, y3], _ =>
      have q0 := hg 0 _ rfl
      have q1 := hg 1 _ rfl
      have q2 := hg 2 _ rfl
      have q3 := hg 3 _ rfl
      simp [hC3, hC4, Value.cells] at q0 q1 q2 q3
      obtain ⟨zs, m, _, _, _, hz, ha⟩ := DataW.trod_array Try.underlying22 q0
      match zs, hz with
      | [z0, z1, z2, z3], _ =>
        have r0 := ha 0 (by decide)
        have r1 := ha 1 (by decide)
        have r2 := ha 2 (by decide)
        have r3 := ha 3 (by decide)
        simp [hC3] at r0 r1 r2 r3
        obtain ⟨n0, e0, _, _⟩ := DataW.trod_int Try.underlying3 r0
        obtain ⟨n1, e1, _, _⟩ := DataW.trod_int Try.underlying3 r1
        obtain ⟨n2, e2, _, _⟩ := DataW.trod_int Try.underlying3 r2
        obtain ⟨n3, e3, _, _⟩ := DataW.trod_int Try.underlying3 r3
        obtain ⟨n4, e4, _, _⟩ := DataW.trod_int Try.underlying3 q1
        obtain ⟨n5, e5, _, _⟩ := DataW.trod_int Try.underlying3 q2
        obtain ⟨n6, e6, _, _⟩ := DataW.trod_int Try.underlying3 q3
        simp at e0 e1 e2 e3 e4 e5 e6
        exact ⟨n0, n1, n2, n3, n4, n5, n6, by rw [e0, e1, e2, e3, e4, e5, e6]⟩
end Go.Proofs.Ytomflpkokcldeaa
