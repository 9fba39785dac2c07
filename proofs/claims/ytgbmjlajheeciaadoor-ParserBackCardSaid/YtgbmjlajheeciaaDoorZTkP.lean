/-
  A token that came in as an argument: what a walk is told of it.
-/
import Derived.ChangeOld
import Derived.Deep.Fields
import Derived.OpenShut
import Derived.ProofKit
import Derived.SizedLaws
import Derived.WideShapes
import Derived.Test.YtgbmjlajheeciaaDoorZTkN
namespace Go.Proofs.YtgbmjlajheeciaaDoor
set_option linter.unusedSimpArgs false
set_option linter.unusedVariables false
open Go.ChangeShapes Go.WideShapes Go.ChangeAt Go.Deep Go.RowKit
set_option linter.unusedVariables false

/-- A text's bytes as numbers. -/
def nums (s : ByteArray) : List Int := s.data.toList.map fun b => (b.toNat : Int)
theorem nums_str (s : ByteArray) : strOf (nums s) = s := by
  unfold nums
  rw [strOf_bytes]
theorem nums_in (s : ByteArray) : ∀ c ∈ nums s, 0 ≤ c ∧ c < 256 := by
  intro c hc
  obtain ⟨b, _, rfl⟩ := List.mem_map.1 hc
  have := b.toNat_lt
  omega
theorem nums_len (s : ByteArray) : (nums s).length = s.size := by unfold nums; rw [List.length_map, Array.length_toList]; rfl
theorem int_u8 {c : Int} (h : (Lit.int .u8 c).wf = true) : 0 ≤ c ∧ c < 256 := by
  have h2 : IntKind.u8.min ≤ c ∧ c ≤ IntKind.u8.max := by simpa [Lit.wf] using h
  have e1 : IntKind.u8.min = 0 := rfl
  have e2 : IntKind.u8.max = 255 := rfl
  omega

/-- What is told of a token's fields. -/
structure TokIn (w : World) (k c m : Int) (a1 : Option Addr) (n1 c1 : Nat) (z1 : List Int) (s : ByteArray) (a2 : Option Addr) (n2 c2 : Nat) (z2 : List Int) : Prop where
  kwf : (Lit.int .i64 k).wf = true
  cwf : (Lit.int .u8 c).wf = true
  mwf : (Lit.int .u8 m).wf = true
  params : IsRow .i64 w a1 n1 c1 z1
  data : IsRow .u8 w a2 n2 c2 z2
  size1 : c1 * 8 ≤ reachBytes
  size2 : c2 ≤ reachBytes
  size3 : s.size ≤ reachBytes
/-- As the laws' words have it. -/
def tokI (k c m : Int) (n1 : Nat) (z1 : List Int) (s : ByteArray) (n2 : Nat) (z2 : List Int) : Tok := ⟨k, c, m, z1.take n1, nums s, z2.take n2⟩

theorem IsRow.rdI {w : World} {a : Option Addr} {len cap : Nat} {zs : List Int} (h : IsRow .i64 w a len cap zs) : Rd w a len (icells (zs.take len)) ∧ len ≤ cap ∧ cap ≤ maxLen := by
  rcases Nat.eq_zero_or_pos cap with h0 | h0
  · have : len = 0 ∧ len ≤ cap := by
      rcases h with ⟨_, h1, h2, _⟩ | ⟨_, _, h1, _⟩ <;> omega
    have hn0 : len = 0 := by omega
    subst hn0
    exact ⟨⟨by simp [icells], .inl rfl⟩, this.2, by unfold maxLen; omega⟩
  · obtain ⟨b, off, ha, h1, h2, h3, h4, hc, hw⟩ := h.plain h0
    refine ⟨⟨by simp [icells]; omega, .inr ⟨b, off, ha, fun i u hi => ?_⟩⟩, h1, h2⟩
    obtain ⟨x, hx, rfl⟩ := icells_get hi
    have hil : i < len := by
      have := (List.getElem?_eq_some_iff.1 hx).1
      simp at this; omega
    rw [hc i (by omega)]
    rw [List.getElem?_take, if_pos hil] at hx
    simp [List.getD, hx]
theorem TokIn.rd {w : World} {k c m : Int} {a1 : Option Addr} {n1 c1 : Nat} {z1 : List Int} {s : ByteArray} {a2 : Option Addr} {n2 c2 : Nat} {z2 : List Int} (h : TokIn w k c m a1 n1 c1 z1 s a2 n2 c2 z2) :
    RdTok w (tokI k c m n1 z1 s n2 z2) a1 n1 a2 n2 ∧ TRange (tokI k c m n1 z1 s n2 z2) ∧ n1 ≤ c1 ∧ n1 * 8 ≤ reachBytes ∧ n2 ≤ reachBytes ∧ (tokI k c m n1 z1 s n2 z2).inters.length ≤ reachBytes := by
  obtain ⟨p1, p2, p3⟩ := h.params.rdI
  obtain ⟨d1, d2, d3, d4, d5, d6⟩ := h.data.rd (n := n2) (Nat.le_refl _)
  have e1 := h.size1
  have e2 := h.size2
  have e3 := h.size3
  have hc := int_u8 h.cwf
  have hm := int_u8 h.mwf
  unfold reachBytes at e1 e2 e3 ⊢
  have hl : (nums s).length = s.size := nums_len s
  refine ⟨⟨p1, d1, by omega, by omega, ?_⟩, ⟨hc, hm, nums_in s, d3⟩, p2, by omega, by omega, ?_⟩
  · show (nums s).length ≤ _
    omega
  · show (nums s).length ≤ _
    omega

end Go.Proofs.YtgbmjlajheeciaaDoor
