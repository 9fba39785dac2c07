/-
  A token that came in as an argument: what a walk is told of it.
  A token of the program's own, made of one that came in: Own, walked.
-/
import Derived.ChangeOld
import Derived.Deep.Fields
import Derived.Laws.Tables
import Derived.OpenShut
import Derived.ProofKit
import Derived.SizedLaws
import Derived.WideShapes
import Derived.Test.YtonbnmicgmnliaaGreatDoorZTkN
import Derived.Test.YtonbnmicgmnliaaGreatDoorZSrcN
namespace Go.Proofs.YtonbnmicgmnliaaGreatDoor
set_option linter.unusedSimpArgs false
set_option linter.unusedVariables false
open Go.ChangeShapes Go.WideShapes Go.ChangeAt Go.Deep Go.RowKit
set_option linter.unusedVariables false

/-- A text's bytes as numbers. -/
def nums (s : ByteArray) : List Int := s.data.toList.map fun b => (b.toNat : Int)
theorem nums_str (s : ByteArray) : strOf (nums s) = s := by
  unfold nums
  rw [strOf_bytes]
theorem nums_in (s : ByteArray) : ∀ c ∈ nums s, 0 ≤ c ∧ c < 256 := by
  intro c hc
  obtain ⟨b, _, rfl⟩ := List.mem_map.1 hc
  have := b.toNat_lt
  omega
theorem nums_len (s : ByteArray) : (nums s).length = s.size := by unfold nums; rw [List.length_map, Array.length_toList]; rfl
theorem int_u8 {c : Int} (h : (Lit.int .u8 c).wf = true) : 0 ≤ c ∧ c < 256 := by
  have h2 : IntKind.u8.min ≤ c ∧ c ≤ IntKind.u8.max := by simpa [Lit.wf] using h
  have e1 : IntKind.u8.min = 0 := rfl
  have e2 : IntKind.u8.max = 255 := rfl
  omega

end Go.Proofs.YtonbnmicgmnliaaGreatDoor

namespace Go.Proofs.YtonbnmicgmnliaaGreatDoor
set_option linter.unusedSimpArgs false
set_option linter.unusedVariables false
open Go.RowKit
set_option linter.unusedVariables false

theorem intsT : Tryz.prog.underlying 41 = some (.slice 3) := Tryz.underlying41
theorem intI : (Tryz.prog.info? 3).map (fun i => (i.zero, i.size, i.bytes)) = some (some (.int .i64 0), 1, 8) := by kernel_rfl
theorem src_rd {P : Program} {t e : TypeId} (ht : P.underlying t = some (.slice e)) {w : World} {a : Option Addr} {n cap : Nat} {xs : List Value} (h : Rd w a n xs) (h1 : ∀ c ∈ xs, c.oneCell' = true) : Src P 1 t (.slice a n cap) n xs w := by
  have hl := h.1
  cases a with
  | none =>
    rcases h.2 with h0 | ⟨b, off, hb, _⟩
    · subst h0
      have : xs = [] := List.eq_nil_of_length_eq_zero hl
      subst this
      exact src_nil ht cap
    · cases hb
  | some x =>
    refine Src.ofSlice w ht x n cap xs (by omega) (fun j v hv => ?_) h1
    have hj : j < xs.length := (List.getElem?_eq_some_iff.1 hv).1
    rcases h.2 with h0 | ⟨b, off, hb, hc⟩
    · omega
    · injection hb with hb
      subst hb
      have e : (⟨b, off, none⟩ : Addr).add j = ⟨b, off + j, none⟩ := by rcases j with _ | j <;> simp [Addr.add]
      rw [e]
      exact hc j v hv

end Go.Proofs.YtonbnmicgmnliaaGreatDoor
