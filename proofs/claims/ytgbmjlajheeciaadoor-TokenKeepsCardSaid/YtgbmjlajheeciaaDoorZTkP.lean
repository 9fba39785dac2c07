/-
  A token that came in as an argument: what a walk is told of it.
-/
import Derived.ChangeOld
import Derived.Deep.Fields
import Derived.OpenShut
import Derived.ProofKit
import Derived.SizedLaws
import Derived.WideShapes
import Derived.Test.YtgbmjlajheeciaaDoorZTkN
namespace Go.Proofs.YtgbmjlajheeciaaDoor
set_option linter.unusedSimpArgs false
set_option linter.unusedVariables false
open Go.ChangeShapes Go.WideShapes Go.ChangeAt Go.Deep Go.RowKit
set_option linter.unusedVariables false

/-- A text's bytes as numbers. -/
def nums (s : ByteArray) : List Int := s.data.toList.map fun b => (b.toNat : Int)
theorem nums_str (s : ByteArray) : strOf (nums s) = s := by
  unfold nums
  rw [strOf_bytes]
theorem nums_in (s : ByteArray) : ∀ c ∈ nums s, 0 ≤ c ∧ c < 256 := by
  intro c hc
  obtain ⟨b, _, rfl⟩ := List.mem_map.1 hc
  have := b.toNat_lt
  omega
theorem nums_len (s : ByteArray) : (nums s).length = s.size := by unfold nums; rw [List.length_map, Array.length_toList]; rfl
theorem int_u8 {c : Int} (h : (Lit.int .u8 c).wf = true) : 0 ≤ c ∧ c < 256 := by
  have h2 : IntKind.u8.min ≤ c ∧ c ≤ IntKind.u8.max := by simpa [Lit.wf] using h
  have e1 : IntKind.u8.min = 0 := rfl
  have e2 : IntKind.u8.max = 255 := rfl
  omega

/-- What is told of a token's fields. -/
structure TokIn (w : World) (k c m : Int) (a1 : Option Addr) (n1 c1 : Nat) (z1 : List Int) (s : ByteArray) (a2 : Option Addr) (n2 c2 : Nat) (z2 : List Int) : Prop where
  kwf : (Lit.int .i64 k).wf = true
  cwf : (Lit.int .u8 c).wf = true
  mwf : (Lit.int .u8 m).wf = true
  params : IsRow .i64 w a1 n1 c1 z1
  data : IsRow .u8 w a2 n2 c2 z2
  size1 : c1 * 8 ≤ reachBytes
  size2 : c2 ≤ reachBytes
  size3 : s.size ≤ reachBytes
/-- As the laws' words have it. -/
def tokI (k c m : Int) (n1 : Nat) (z1 : List Int) (s : ByteArray) (n2 : Nat) (z2 : List Int) : Tok := ⟨k, c, m, z1.take n1, nums s, z2.take n2⟩

theorem IsRow.rdI {w : World} {a : Option Addr} {len cap : Nat} {zs : List Int} (h : IsRow .i64 w a len cap zs) : Rd w a len (icells (zs.take len)) ∧ len ≤ cap ∧ cap ≤ maxLen := by
  rcases Nat.eq_zero_or_pos cap with h0 | h0
  · have : len = 0 ∧ len ≤ cap := by
      rcases h with ⟨_, h1, h2, _⟩ | ⟨_, _, h1, _⟩ <;> omega
    have hn0 : len = 0 := by omega
    subst hn0
    exact ⟨⟨by simp [icells], .inl rfl⟩, this.2, by unfold maxLen; omega⟩
  · obtain ⟨b, off, ha, h1, h2, h3, h4, hc, hw⟩ := h.plain h0
    refine ⟨⟨by simp [icells]; omega, .inr ⟨b, off, ha, fun i u hi => ?_⟩⟩, h1, h2⟩
    obtain ⟨x, hx, rfl⟩ := icells_get hi
    have hil : i < len := by
      have := (List.getElem?_eq_some_iff.1 hx).1
      simp at this; omega
    rw [hc i (by omega)]
    rw [List.getElem?_take, if_pos hil] at hx
    simp [List.getD, hx]
theorem TokIn.rd {w : World} {k c m : Int} {a1 : Option Addr} {n1 c1 : Nat} {z1 : List Int} {s : ByteArray} {a2 : Option Addr} {n2 c2 : Nat} {z2 : List Int} (h : TokIn w k c m a1 n1 c1 z1 s a2 n2 c2 z2) :
    RdTok w (tokI k c m n1 z1 s n2 z2) a1 n1 a2 n2 ∧ TRange (tokI k c m n1 z1 s n2 z2) ∧ n1 ≤ c1 ∧ n1 * 8 ≤ reachBytes ∧ n2 ≤ reachBytes ∧ (tokI k c m n1 z1 s n2 z2).inters.length ≤ reachBytes := by
  obtain ⟨p1, p2, p3⟩ := h.params.rdI
  obtain ⟨d1, d2, d3, d4, d5, d6⟩ := h.data.rd (n := n2) (Nat.le_refl _)
  have e1 := h.size1
  have e2 := h.size2
  have e3 := h.size3
  have hc := int_u8 h.cwf
  have hm := int_u8 h.mwf
  unfold reachBytes at e1 e2 e3 ⊢
  have hl : (nums s).length = s.size := nums_len s
  refine ⟨⟨p1, d1, by omega, by omega, ?_⟩, ⟨hc, hm, nums_in s, d3⟩, p2, by omega, by omega, ?_⟩
  · show (nums s).length ≤ _
    omega
  · show (nums s).length ≤ _
    omega

set_option maxRecDepth 100000 in
theorem open_tok {H : Type} {enc : TypeId × Value → H} {w : World} {base b0 : Nat} {held : Bool} {r : Reach} {v : Value} {d : DataW H} {p : List MemPlace}
    (hv : Value.okWide Tryd.prog w r b0 25 v) (h : DataW.Trod enc Tryd.prog w base (fun _ => true) held 25 v d p) (hs : ∀ n ∈ d.weights Tryd.prog 25, n ≤ reachBytes) :
    ∃ (k c m : Int) (a1 : Option Addr) (n1 c1 : Nat) (z1 : List Int) (s : ByteArray) (a2 : Option Addr) (n2 c2 : Nat) (z2 : List Int), v = .agg #[.int .i64 k, .int .u8 c, .int .u8 m, .slice a1 n1 c1, .string s, .slice a2 n2 c2] ∧ TokIn w k c m a1 n1 c1 z1 s a2 n2 c2 z2 := by
  have hC : Tryd.prog.cellsOf 25 = 6 := by kernel_rfl
  have hC1 : Tryd.prog.cellsOf 3 = 1 := by kernel_rfl
  have hC2 : Tryd.prog.cellsOf 5 = 1 := by kernel_rfl
  have hC3 : Tryd.prog.cellsOf 22 = 1 := by kernel_rfl
  have hC4 : Tryd.prog.cellsOf 9 = 1 := by kernel_rfl
  have hC5 : Tryd.prog.cellsOf 23 = 1 := by kernel_rfl
  have hB1 : Tryd.prog.bytesOf 3 = 8 := by kernel_rfl
  have hB2 : Tryd.prog.bytesOf 5 = 1 := by kernel_rfl
  obtain ⟨cs, rfl, hsz⟩ := okWide_struct Tryd.underlying25 hv
  obtain ⟨l⟩ := cs
  match l, hsz.trans hC with
  | [x0, x1, x2, x3, x4, x5], _ =>
    obtain ⟨fuel, hf⟩ := h
    obtain ⟨xs, n, _, hx, _, hlen, hg⟩ := DataW.trod_struct Tryd.underlying25 hf
    match xs, hlen with
    | [y0, y1, y2, y3, y4, y5], _ =>
      have q0 := hg 0 _ rfl
      have q1 := hg 1 _ rfl
      have q2 := hg 2 _ rfl
      have q3 := hg 3 _ rfl
      have q4 := hg 4 _ rfl
      have q5 := hg 5 _ rfl
      simp [hC1, hC2, hC3, hC4, hC5, Value.cells] at q0 q1 q2 q3 q4 q5
      obtain ⟨k, e0, _, wk⟩ := DataW.trod_int Tryd.underlying3 q0
      obtain ⟨c, e1, _, wc⟩ := DataW.trod_int Tryd.underlying5 q1
      obtain ⟨m, e2, _, wm⟩ := DataW.trod_int Tryd.underlying5 q2
      obtain ⟨s, e4, g4, ws⟩ := DataW.trod_string Tryd.underlying9 q4
      simp at e0 e1 e2 e4
      subst e0; subst e1; subst e2; subst e4
      injection hx with hx hp
      subst hx
      simp [DataW.weights, Tryd.underlying25, DataW.weightsEach] at hs
      have s3 : ∀ n ∈ y3.1.weights Tryd.prog 22, n ≤ reachBytes := fun n hn => hs n (.inr (.inr (.inr (.inl hn))))
      have s4 : ∀ n ∈ y4.1.weights Tryd.prog 9, n ≤ reachBytes := fun n hn => hs n (.inr (.inr (.inr (.inr (.inl hn)))))
      have s5 : ∀ n ∈ y5.1.weights Tryd.prog 23, n ≤ reachBytes := fun n hn => hs n (.inr (.inr (.inr (.inr (.inr hn)))))
      clear hs hg hlen
      have h4 : s.size ≤ reachBytes := by
        have := s4 s.data.toList.length (by rw [g4]; simp [DataW.weights])
        rw [Array.length_toList] at this
        exact this
      obtain ⟨a1, n1, c1, z1, e3, r1, b1⟩ : ∃ a1 n1 c1 z1, x3 = .slice a1 n1 c1 ∧ IsRow .i64 w a1 n1 c1 z1 ∧ c1 * 8 ≤ reachBytes := by
        rcases open_ints Tryd.underlying22 Tryd.underlying3 (by kernel_rfl) q3 with ⟨hcs, _⟩ | ⟨x, ln, cp, zs, hcs, _, hl, hm, hz, hd, hcell, hwz⟩
        · simp at hcs
          exact ⟨none, 0, 0, [], hcs, .inl ⟨rfl, rfl, rfl, rfl⟩, by decide⟩
        · simp at hcs hz
          refine ⟨some x, ln, cp, zs, hcs, .inr ⟨x, rfl, hl, hm, hz, hcell, hwz⟩, ?_⟩
          have := s3 ((ln + (cp - ln)) * 8) (by
            rw [hd]
            simp [DataW.weights, Tryd.underlying22, hB1, lits, hz, Nat.min_eq_left hl])
          have e : ln + (cp - ln) = cp := by omega
          rw [e] at this
          exact this
      obtain ⟨a2, n2, c2, z2, e5, r2, b2⟩ : ∃ a2 n2 c2 z2, x5 = .slice a2 n2 c2 ∧ IsRow .u8 w a2 n2 c2 z2 ∧ c2 ≤ reachBytes := by
        rcases open_ints Tryd.underlying23 Tryd.underlying5 (by kernel_rfl) q5 with ⟨hcs, _⟩ | ⟨x, ln, cp, zs, hcs, _, hl, hm, hz, hd, hcell, hwz⟩
        · simp at hcs
          exact ⟨none, 0, 0, [], hcs, .inl ⟨rfl, rfl, rfl, rfl⟩, by decide⟩
        · simp at hcs hz
          refine ⟨some x, ln, cp, zs, hcs, .inr ⟨x, rfl, hl, hm, hz, hcell, hwz⟩, ?_⟩
          have := s5 ((ln + (cp - ln)) * 1) (by
            rw [hd]
            simp [DataW.weights, Tryd.underlying23, hB2, lits, hz, Nat.min_eq_left hl])
          omega
      subst e3; subst e5
      exact ⟨k, c, m, a1, n1, c1, z1, s, a2, n2, c2, z2, rfl, wk, wc, wm, r1, r2, b1, b2, h4⟩
end Go.Proofs.YtgbmjlajheeciaaDoor
