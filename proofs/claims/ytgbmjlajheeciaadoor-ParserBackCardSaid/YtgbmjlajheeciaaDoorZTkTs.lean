/-
  A slice of tokens that came in: what a walk is told of each.
-/
import Derived.Test.YtgbmjlajheeciaaDoorZTkP
namespace Go.Proofs.YtgbmjlajheeciaaDoor
set_option linter.unusedSimpArgs false
set_option linter.unusedVariables false
open Go.ChangeShapes Go.WideShapes Go.ChangeAt Go.Deep Go.RowKit
set_option linter.unusedVariables false

theorem tok_trod {H : Type} {enc : TypeId × Value → H} {w : World} {base fuel : Nat} {held : Bool} {x0 x1 x2 x3 x4 x5 : Value} {d : DataW H} {p : List MemPlace}
    (hf : DataW.trod enc Tryd.prog w base (fun _ => true) held fuel 25 [x0, x1, x2, x3, x4, x5] = some (d, p)) (hs : ∀ n ∈ d.weights Tryd.prog 25, n ≤ reachBytes) :
    ∃ (k c m : Int) (a1 : Option Addr) (n1 c1 : Nat) (z1 : List Int) (s : ByteArray) (a2 : Option Addr) (n2 c2 : Nat) (z2 : List Int), [x0, x1, x2, x3, x4, x5] = [.int .i64 k, .int .u8 c, .int .u8 m, .slice a1 n1 c1, .string s, .slice a2 n2 c2] ∧ TokIn w k c m a1 n1 c1 z1 s a2 n2 c2 z2 := by
  have hC : Tryd.prog.cellsOf 25 = 6 := by kernel_rfl
  have hC1 : Tryd.prog.cellsOf 3 = 1 := by kernel_rfl
  have hC2 : Tryd.prog.cellsOf 5 = 1 := by kernel_rfl
  have hC3 : Tryd.prog.cellsOf 22 = 1 := by kernel_rfl
  have hC4 : Tryd.prog.cellsOf 9 = 1 := by kernel_rfl
  have hC5 : Tryd.prog.cellsOf 23 = 1 := by kernel_rfl
  have hB1 : Tryd.prog.bytesOf 3 = 8 := by kernel_rfl
  have hB2 : Tryd.prog.bytesOf 5 = 1 := by kernel_rfl
  obtain ⟨xs, n, _, hx, _, hlen, hg⟩ := DataW.trod_struct Tryd.underlying25 hf
  match xs, hlen with
  | [y0, y1, y2, y3, y4, y5], _ =>
    have q0 := hg 0 _ rfl
    have q1 := hg 1 _ rfl
    have q2 := hg 2 _ rfl
    have q3 := hg 3 _ rfl
    have q4 := hg 4 _ rfl
    have q5 := hg 5 _ rfl
    simp [hC1, hC2, hC3, hC4, hC5, Value.cells] at q0 q1 q2 q3 q4 q5
    obtain ⟨k, e0, _, wk⟩ := DataW.trod_int Tryd.underlying3 q0
    obtain ⟨c, e1, _, wc⟩ := DataW.trod_int Tryd.underlying5 q1
    obtain ⟨m, e2, _, wm⟩ := DataW.trod_int Tryd.underlying5 q2
    obtain ⟨s, e4, g4, ws⟩ := DataW.trod_string Tryd.underlying9 q4
    simp at e0 e1 e2 e4
    subst e0; subst e1; subst e2; subst e4
    injection hx with hx hp
    subst hx
    simp [DataW.weights, Tryd.underlying25, DataW.weightsEach] at hs
    have s3 : ∀ n ∈ y3.1.weights Tryd.prog 22, n ≤ reachBytes := fun n hn => hs n (.inr (.inr (.inr (.inl hn))))
    have s4 : ∀ n ∈ y4.1.weights Tryd.prog 9, n ≤ reachBytes := fun n hn => hs n (.inr (.inr (.inr (.inr (.inl hn)))))
    have s5 : ∀ n ∈ y5.1.weights Tryd.prog 23, n ≤ reachBytes := fun n hn => hs n (.inr (.inr (.inr (.inr (.inr hn)))))
    clear hs hg hlen
    have h4 : s.size ≤ reachBytes := by
      have := s4 s.data.toList.length (by rw [g4]; simp [DataW.weights])
      rw [Array.length_toList] at this
      exact this
    obtain ⟨a1, n1, c1, z1, e3, r1, b1⟩ : ∃ a1 n1 c1 z1, x3 = .slice a1 n1 c1 ∧ IsRow .i64 w a1 n1 c1 z1 ∧ c1 * 8 ≤ reachBytes := by
      rcases open_ints Tryd.underlying22 Tryd.underlying3 (by kernel_rfl) q3 with ⟨hcs, _⟩ | ⟨x, ln, cp, zs, hcs, _, hl, hm, hz, hd, hcell, hwz⟩
      · simp at hcs
        exact ⟨none, 0, 0, [], hcs, .inl ⟨rfl, rfl, rfl, rfl⟩, by decide⟩
      · simp at hcs hz
        refine ⟨some x, ln, cp, zs, hcs, .inr ⟨x, rfl, hl, hm, hz, hcell, hwz⟩, ?_⟩
        have := s3 ((ln + (cp - ln)) * 8) (by
          rw [hd]
          simp [DataW.weights, Tryd.underlying22, hB1, lits, hz, Nat.min_eq_left hl])
        have e : ln + (cp - ln) = cp := by omega
        rw [e] at this
        exact this
    obtain ⟨a2, n2, c2, z2, e5, r2, b2⟩ : ∃ a2 n2 c2 z2, x5 = .slice a2 n2 c2 ∧ IsRow .u8 w a2 n2 c2 z2 ∧ c2 ≤ reachBytes := by
      rcases open_ints Tryd.underlying23 Tryd.underlying5 (by kernel_rfl) q5 with ⟨hcs, _⟩ | ⟨x, ln, cp, zs, hcs, _, hl, hm, hz, hd, hcell, hwz⟩
      · simp at hcs
        exact ⟨none, 0, 0, [], hcs, .inl ⟨rfl, rfl, rfl, rfl⟩, by decide⟩
      · simp at hcs hz
        refine ⟨some x, ln, cp, zs, hcs, .inr ⟨x, rfl, hl, hm, hz, hcell, hwz⟩, ?_⟩
        have := s5 ((ln + (cp - ln)) * 1) (by
          rw [hd]
          simp [DataW.weights, Tryd.underlying23, hB2, lits, hz, Nat.min_eq_left hl])
        omega
    subst e3; subst e5
    exact ⟨k, c, m, a1, n1, c1, z1, s, a2, n2, c2, z2, rfl, wk, wc, wm, r1, r2, b1, b2, h4⟩
/-- A slice of tokens that came in. -/
def IsToks (w : World) (a : Option Addr) (len : Nat) : Prop := len ≤ maxLen ∧ (len = 0 ∨ ∃ b off, a = some ⟨b, off, none⟩ ∧ ∀ i, i < len → ∃ (k c m : Int) (a1 : Option Addr) (n1 c1 : Nat) (z1 : List Int) (s : ByteArray) (a2 : Option Addr) (n2 c2 : Nat) (z2 : List Int),
  (w.cell? ⟨b, off + (i * 6 + 0), none⟩ = some (.int .i64 k) ∧ w.cell? ⟨b, off + (i * 6 + 1), none⟩ = some (.int .u8 c) ∧ w.cell? ⟨b, off + (i * 6 + 2), none⟩ = some (.int .u8 m) ∧ w.cell? ⟨b, off + (i * 6 + 3), none⟩ = some (.slice a1 n1 c1) ∧ w.cell? ⟨b, off + (i * 6 + 4), none⟩ = some (.string s) ∧ w.cell? ⟨b, off + (i * 6 + 5), none⟩ = some (.slice a2 n2 c2)) ∧ TokIn w k c m a1 n1 c1 z1 s a2 n2 c2 z2)
theorem weights_all {H : Type} {P : Program} {e : TypeId} : ∀ {l : List (DataW H)} {i : Nat} {d : DataW H}, l[i]? = some d → ∀ n ∈ d.weights P e, n ∈ DataW.weightsAll P e l
  | [], i, d, h, n, hn => by simp at h
  | x :: l, 0, d, h, n, hn => by
    simp only [List.getElem?_cons_zero, Option.some.injEq] at h
    subst h
    simp only [DataW.weightsAll, List.mem_append]
    exact .inl hn
  | x :: l, i + 1, d, h, n, hn => by
    simp only [DataW.weightsAll, List.mem_append]
    exact .inr (weights_all (by simpa using h) n hn)
theorem open_toks {H : Type} {enc : TypeId × Value → H} {w : World} {base fuel : Nat} {held : Bool} {cs : List Value} {d : DataW H} {p : List MemPlace}
    (h : DataW.trod enc Tryd.prog w base (fun _ => true) held fuel 45 cs = some (d, p)) (hs : ∀ n ∈ d.weights Tryd.prog 45, n ≤ reachBytes) :
    ∃ a len cap, cs = [.slice a len cap] ∧ len ≤ cap ∧ cap ≤ maxLen ∧ IsToks w a len := by
  have hC : Tryd.prog.cellsOf 25 = 6 := by kernel_rfl
  rcases DataW.trod_slice Tryd.underlying45 h with ⟨rfl, _⟩ | ⟨x, len, cap, elems, rest, n, hfu, hcs, hx, hbl, hl, hm, hel, he, _, _⟩
  · exact ⟨none, 0, 0, rfl, Nat.le_refl _, Nat.zero_le _, Nat.zero_le _, .inl rfl⟩
  · refine ⟨some x, len, cap, hcs, hl, hm, by omega, ?_⟩
    injection hx with hx hp
    subst hx
    rw [hC] at he
    have key : ∀ i, i < len → ∃ (k c m : Int) (a1 : Option Addr) (n1 c1 : Nat) (z1 : List Int) (s : ByteArray) (a2 : Option Addr) (n2 c2 : Nat) (z2 : List Int),
        (∀ j v, [Value.int .i64 k, .int .u8 c, .int .u8 m, .slice a1 n1 c1, .string s, .slice a2 n2 c2][j]? = some v → w.cell? (x.add (i * 6 + j)) = some v) ∧ TokIn w k c m a1 n1 c1 z1 s a2 n2 c2 z2 := by
      intro i hi
      have h1 := he i hi
      obtain ⟨y, hy⟩ : ∃ y, elems[i]? = some y := ⟨_, List.getElem?_eq_getElem (by omega)⟩
      rw [hy] at h1
      obtain ⟨cs', hc, ht⟩ := Option.bind_eq_some_iff.1 h1
      obtain ⟨_, hcl, hat⟩ := World.cells?_some hc
      obtain ⟨y1, y2⟩ := y
      match cs', hcl with
      | [x0, x1, x2, x3, x4, x5], _ =>
        obtain ⟨k, c, m, a1, n1, c1, z1, s, a2, n2, c2, z2, e, ht2⟩ := tok_trod ht (fun n hn => hs n (by
          simp only [DataW.weights, Tryd.underlying45, List.mem_cons, List.mem_append]
          exact .inr (.inl (weights_all (i := i) (by rw [List.getElem?_map, hy]; rfl) n hn))))
        refine ⟨k, c, m, a1, n1, c1, z1, s, a2, n2, c2, z2, fun j v hv => ?_, ht2⟩
        rw [← e] at hv
        have hj : j < 6 := (List.getElem?_eq_some_iff.1 hv).1
        have := hat j hj
        rw [hv, add_add] at this
        exact this
    by_cases hz : len = 0
    · exact .inl hz
    right
    obtain ⟨b, off, sp⟩ := x
    obtain ⟨k, c, m, a1, n1, c1, z1, s, a2, n2, c2, z2, h0, _⟩ := key 0 (by omega)
    have hsp : sp = none := by
      cases sp with
      | none => rfl
      | some y =>
        have h0 := h0 0 _ rfl
        have : (⟨b, off, some y⟩ : Addr).add (0 * 6 + 0) = ⟨b, off, some y⟩ := by unfold Addr.add; simp
        rw [this] at h0
        unfold World.cell? at h0
        split at h0 <;> simp at h0
    subst hsp
    refine ⟨b, off, rfl, fun i hi => ?_⟩
    obtain ⟨k, c, m, a1, n1, c1, z1, s, a2, n2, c2, z2, h0, h2⟩ := key i hi
    have ea : ∀ q, (⟨b, off, none⟩ : Addr).add q = ⟨b, off + q, none⟩ := fun q => by rcases q with _ | q <;> simp [Addr.add]
    simp only [ea] at h0
    exact ⟨k, c, m, a1, n1, c1, z1, s, a2, n2, c2, z2, ⟨h0 0 _ rfl, h0 1 _ rfl, h0 2 _ rfl, h0 3 _ rfl, h0 4 _ rfl, h0 5 _ rfl⟩, h2⟩
set_option maxRecDepth 100000 in
theorem open_toksV {H : Type} {enc : TypeId × Value → H} {w : World} {base b0 : Nat} {held : Bool} {r : Reach} {v : Value} {d : DataW H} {p : List MemPlace}
    (hv : Value.okWide Tryd.prog w r b0 45 v) (h : DataW.Trod enc Tryd.prog w base (fun _ => true) held 45 v d p) (hs : ∀ n ∈ d.weights Tryd.prog 45, n ≤ reachBytes) :
    ∃ (a : Option Addr) (n c : Nat), v = .slice a n c ∧ IsToks w a n := by
  obtain ⟨a, n, c, rfl⟩ := okWide_slice (P := Tryd.prog) (t := 45) (e := 25) Tryd.underlying45 hv
  obtain ⟨fuel, hf⟩ := h
  obtain ⟨a', n', c', e, _, _, ht⟩ := open_toks hf hs
  simp [Value.cells] at e
  obtain ⟨rfl, rfl, rfl⟩ := e
  exact ⟨a, n, c, rfl, ht⟩
end Go.Proofs.YtgbmjlajheeciaaDoor
