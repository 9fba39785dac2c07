/-
  A slice of acts that came in; the law IsoPlays of seven numbers and such a slice.
-/
import Derived.Test.YtomflpkokcldeaaIsQ
import Derived.ProofKit
import Derived.OpenShut
import Derived.ChangeOld
namespace Go.Proofs.Ytomflpkokcldeaa
set_option linter.unusedSimpArgs false
set_option linter.unusedVariables false
open Go.ChangeShapes Go.WideShapes Go.ChangeAt Go.Deep Go.RowKit
set_option linter.unusedVariables false

theorem open_acts {H : Type} {enc : TypeId × Value → H} {w : World} {base b0 : Nat} {spare : Nat → Bool} {held : Bool} {r : Reach} {v : Value} {d : DataW H} {p : List MemPlace}
    (hv : Value.okWide Try.prog w r b0 39 v) (h : DataW.Trod enc Try.prog w base spare held 39 v d p) :
    ∃ (a : Option Addr) (len cap : Nat), v = .slice a len cap ∧ IsStructs w a len 5 actF := by
  obtain ⟨a, len, cap, rfl⟩ := okWide_slice Try.underlying39 hv
  obtain ⟨fuel, hf⟩ := h
  refine ⟨a, len, cap, rfl, ?_⟩
  refine open_structs Try.underlying39 Try.underlying46 (by kernel_rfl) (by kernel_rfl) (by decide) actF ?_ (a := a) (len := len) (cap := cap) (by simp [Value.cells]) hf
  intro j f v n y hj ht
  match j, hj with
  | 0, hj => injection hj with hj; subst hj; obtain ⟨z, e, hw⟩ := field_int Try.underlying3 ht; exact ⟨z, e, hw⟩
  | 1, hj => injection hj with hj; subst hj; obtain ⟨z, e, hw⟩ := field_int Try.underlying3 ht; exact ⟨z, e, hw⟩
  | 2, hj => injection hj with hj; subst hj; exact field_bool Try.underlying4 ht
  | 3, hj => injection hj with hj; subst hj; exact field_string Try.underlying9 ht
  | 4, hj => injection hj with hj; subst hj; obtain ⟨z, e, hw⟩ := field_int Try.underlying5 ht; exact ⟨z, e, hw⟩
  | _ + 5, hj => simp at hj

theorem plays_law (x0 x1 x2 x3 x4 x5 x6 : Int) (a : Option Addr) (len cap : Nat) (w : World) (hacts : IsStructs w a len 5 actF) :
    Calls Try.prog 5 #[.agg #[.int .i64 x0, .int .i64 x1, .int .i64 x2, .int .i64 x3, .int .i64 x4, .int .i64 x5, .int .i64 x6], .slice a len cap] w fun e w' => e = .returned (.bool true) ∧ Gr w w' :=
  plays_walk ⟨x0, x1, x2, x3, x4, x5, x6⟩ a len cap w hacts
end Go.Proofs.Ytomflpkokcldeaa
