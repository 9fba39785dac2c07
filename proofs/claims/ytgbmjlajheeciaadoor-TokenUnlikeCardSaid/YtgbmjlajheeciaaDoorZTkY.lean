/-
  Two tokens of the program's own made at once; the laws TokenFunctions and TokenUnlike, walked.
-/
import Derived.Test.YtgbmjlajheeciaaDoorZOrd6
import Derived.Test.YtgbmjlajheeciaaDoorZTkW
namespace Go.Proofs.YtgbmjlajheeciaaDoor
set_option linter.unusedSimpArgs false
set_option linter.unusedVariables false
open Go.RowKit
set_option linter.unusedVariables false

theorem idR_in {T : Tok} (h : TRange T) : ∀ c ∈ idR T.kind T.code T.mark T.inters, 0 ≤ c ∧ c < 256 := by
  intro c hc
  unfold idR at hc
  split at hc
  · cases hc
  · rcases List.mem_append.1 hc with hc | hc
    · split at hc
      · cases hc
      · simp at hc; subst hc; exact h.mark
    · rcases List.mem_append.1 hc with hc | hc
      · exact h.inters c hc
      · simp at hc; subst hc; exact h.code
theorem OTok.mono {B B' : Nat} {w : World} {t : Tok} {q : Value × Value} (h : OTok B w t q) (hB : B' ≤ B) : OTok B' w t q := ⟨World.ownsRow.mono h.params hB, World.ownsRow.mono h.data hB⟩
theorem OTok.far {B g : Nat} {w1 w2 : World} {t : Tok} {q : Value × Value} {cs : Array Value} (h : OTok B w1 t q) (hb : w1.heap[g]? = some (.cells cs 27 (0, 0))) (ho : ∀ k, k ≠ g → w2.heap[k]? = w1.heap[k]?) : OTok B w2 t q := by
  have hne : ∀ {e n : Nat} {v : Value} {xs : List Value}, w1.ownsRow B e 1 v n xs → e ≠ 27 → ∀ k, v.ownBlock = some k → k ≠ g := by
    intro e n v xs hr he k hk e1
    subst e1
    rcases hr.2 with ⟨rfl, _⟩ | ⟨g', cap, cur, rfl, _, hh, _⟩
    · cases hk
    · injection hk with hk
      simp only at hk
      subst hk
      rw [hb] at hh
      injection hh with hh
      injection hh with _ h2 _
      exact he h2.symm
  exact ⟨ownsRow_same h.params fun k hk => ho k (hne h.params (by decide) k hk), ownsRow_same h.data fun k hk => ho k (hne h.data (by decide) k hk)⟩

theorem id_cut {m m' c c' : Int} {l l' : List Int} (hm : MarkOk m) (hm' : MarkOk m') (hl : IntsOk l) (hl' : IntsOk l') (e : idR 4 c m l = idR 4 c' m' l') : m = m' ∧ l = l' ∧ c = c' := by
  have two : ∀ {a a' : List Int} {x x' : Int}, a ++ [x] = a' ++ [x'] → a = a' ∧ x = x' := by
    intro a a' x x' h
    obtain ⟨h1, h2⟩ := List.append_inj' h rfl
    exact ⟨h1, by simpa using h2⟩
  have one : ∀ {m c c' : Int} {l l' : List Int}, 60 ≤ m → IntsOk l → ¬ l ++ [c] = [m] ++ (l' ++ [c']) := by
    intro m c c' l l' hm hl h
    cases l with
    | nil =>
      have := congrArg List.length h
      simp at this
    | cons x l0 =>
      simp at h
      have := hl.2 x (by simp)
      omega
  by_cases h0 : m = 0
  · subst h0
    rw [idR_zero (by omega) (by omega)] at e
    by_cases h1 : m' = 0
    · subst h1
      rw [idR_zero (by omega) (by omega)] at e
      exact ⟨rfl, (two e).1, (two e).2⟩
    · rw [idR_mark (by omega) (by omega) h1] at e
      rcases hm' with h | h
      · exact absurd h h1
      · exact absurd e (one h.1 hl)
  · rw [idR_mark (by omega) (by omega) h0] at e
    by_cases h1 : m' = 0
    · subst h1
      rw [idR_zero (by omega) (by omega)] at e
      rcases hm with h | h
      · exact absurd h h0
      · exact absurd e.symm (one h.1 hl')
    · rw [idR_mark (by omega) (by omega) h1] at e
      simp only [List.cons_append, List.nil_append, List.cons.injEq] at e
      exact ⟨e.1, (two e.2).1, (two e.2).2⟩
/-- What a control sequence's id says of it. -/
theorem csi_id {T1 T2 : Tok} (h1 : Can T1) (h2 : Can T2) (k1 : T1.kind = 4) (k2 : T2.kind = 4) :
    (idR T1.kind T1.code T1.mark T1.inters = idR T2.kind T2.code T2.mark T2.inters → sameT T1 T2 = (T1.params == T2.params)) ∧ (¬ idR T1.kind T1.code T1.mark T1.inters = idR T2.kind T2.code T2.mark T2.inters → sameT T1 T2 = false) ∧
    1 ≤ (idR T1.kind T1.code T1.mark T1.inters).length ∧ (idR T1.kind T1.code T1.mark T1.inters).length ≤ 5 := by
  cases h1 with
  | csi c m ps l hc hm hp hl =>
    cases h2 with
    | csi c' m' ps' l' hc' hm' hp' hl' =>
      refine ⟨fun e => ?_, fun e => ?_, ?_⟩
      · obtain ⟨e1, e2, e3⟩ := id_cut hm hm' hl hl' e
        subst e1; subst e2; subst e3
        simp [sameT]
      · apply Classical.byContradiction
        intro hn
        have h := (sameT_iff _ _).1 (by simpa using hn)
        injection h with _ e1 e2 e3 e4 e5
        subst e1; subst e2; subst e4
        exact e rfl
      · have := hl.1
        by_cases h0 : m = 0
        · subst h0
          simp only
          rw [idR_zero (by omega) (by omega)]
          simp; omega
        · simp only
          rw [idR_mark (by omega) (by omega) h0]
          simp; omega
    | str k d hk hd => simp at k2; omega
    | _ => simp at k2
  | str k d hk hd => simp at k1; omega
  | _ => simp at k1
def twoF (wR : World) (T1 T2 : Tok) (k1 c1 m1 : Int) (s1 : ByteArray) (n1 o1 : Nat) (k2 c2 m2 : Int) (s2 : ByteArray) (n2 o2 : Nat) (A1 A2 : Value) : Nat → (Nat → Value) → World → Prop
  | 0, ys, _ => ys 0 = A1
  | 1, ys, w' => ∃ pa pc da dc, ys 1 = .agg #[.int .i64 k1, .int .u8 c1, .int .u8 m1, .slice pa n1 pc, .string s1, .slice da o1 dc] ∧ OTok wR.heap.size w' T1 (.slice pa n1 pc, .slice da o1 dc)
  | 2, ys, _ => ys 2 = A2
  | 3, ys, w' => ∃ pa pc da dc, ys 3 = .agg #[.int .i64 k2, .int .u8 c2, .int .u8 m2, .slice pa n2 pc, .string s2, .slice da o2 dc] ∧ OTok wR.heap.size w' T2 (.slice pa n2 pc, .slice da o2 dc)
  | 4, ys, w' => ∃ g, ys 4 = .pointer (some ⟨g, 0, none⟩) ∧ wR.heap.size ≤ g ∧ ∃ cs, cs.size = 6 ∧ w'.heap[g]? = some (.cells cs 27 (0, 0))
  | 5, ys, w' => ∃ g, ys 5 = .pointer (some ⟨g, 0, none⟩) ∧ wR.heap.size ≤ g ∧ ∃ cs, cs.size = 6 ∧ w'.heap[g]? = some (.cells cs 27 (0, 0))
  | 6, ys, w' => ∃ g pa pc da dc, ys 4 = .pointer (some ⟨g, 0, none⟩) ∧ wR.heap.size ≤ g ∧ w'.heap[g]? = some (.cells #[.int .i64 k1, .int .u8 c1, .int .u8 m1, .slice pa n1 pc, .string s1, .slice da o1 dc] 27 (0, 0)) ∧ OTok wR.heap.size w' T1 (.slice pa n1 pc, .slice da o1 dc)
  | 7, ys, w' => ∃ g pa pc da dc, ys 5 = .pointer (some ⟨g, 0, none⟩) ∧ wR.heap.size ≤ g ∧ w'.heap[g]? = some (.cells #[.int .i64 k2, .int .u8 c2, .int .u8 m2, .slice pa n2 pc, .string s2, .slice da o2 dc] 27 (0, 0)) ∧ OTok wR.heap.size w' T2 (.slice pa n2 pc, .slice da o2 dc)
  | _, _, _ => True
def twoD (i j : Nat) (u v : Value) : Prop := i = 4 → j = 5 → u ≠ v
section
variable {wR w1 w2 : World} {T1 T2 : Tok} {k1 c1 m1 k2 c2 m2 : Int} {s1 s2 : ByteArray} {n1 o1 n2 o2 : Nat} {A1 A2 : Value} {j : Nat} {ys : Nat → Value}
theorem twoF.gr (h : twoF wR T1 T2 k1 c1 m1 s1 n1 o1 k2 c2 m2 s2 n2 o2 A1 A2 j ys w1) (hg : Gr w1 w2) : twoF wR T1 T2 k1 c1 m1 s1 n1 o1 k2 c2 m2 s2 n2 o2 A1 A2 j ys w2 := by
  unfold twoF at h ⊢
  split <;> first | exact h | skip
  · obtain ⟨a, b, c, d, e, h⟩ := h; exact ⟨a, b, c, d, e, h.gr hg⟩
  · obtain ⟨a, b, c, d, e, h⟩ := h; exact ⟨a, b, c, d, e, h.gr hg⟩
  · obtain ⟨g, e, hb, cs, hc, h⟩ := h; exact ⟨g, e, hb, cs, hc, hg.blk h⟩
  · obtain ⟨g, e, hb, cs, hc, h⟩ := h; exact ⟨g, e, hb, cs, hc, hg.blk h⟩
  · obtain ⟨g, a, b, c, d, e, hb, h1, h2⟩ := h; exact ⟨g, a, b, c, d, e, hb, hg.blk h1, h2.gr hg⟩
  · obtain ⟨g, a, b, c, d, e, hb, h1, h2⟩ := h; exact ⟨g, a, b, c, d, e, hb, hg.blk h1, h2.gr hg⟩
  · trivial
theorem twoF.set {g : Nat} {cs cs' : Array Value} (h : twoF wR T1 T2 k1 c1 m1 s1 n1 o1 k2 c2 m2 s2 n2 o2 A1 A2 j ys w1) (hb : w1.heap[g]? = some (.cells cs 27 (0, 0))) (hs : w2.heap[g]? = some (.cells cs' 27 (0, 0))) (hc' : cs'.size = 6) (ho : ∀ k, k ≠ g → w2.heap[k]? = w1.heap[k]?)
    (h6 : j = 6 → ys 4 ≠ .pointer (some ⟨g, 0, none⟩)) (h7 : j = 7 → ys 5 ≠ .pointer (some ⟨g, 0, none⟩)) : twoF wR T1 T2 k1 c1 m1 s1 n1 o1 k2 c2 m2 s2 n2 o2 A1 A2 j ys w2 := by
  unfold twoF at h ⊢
  split <;> first | exact h | skip
  · obtain ⟨a, b, c, d, e, h⟩ := h; exact ⟨a, b, c, d, e, h.far hb ho⟩
  · obtain ⟨a, b, c, d, e, h⟩ := h; exact ⟨a, b, c, d, e, h.far hb ho⟩
  · obtain ⟨g', e, hB, cs0, hc, h⟩ := h
    by_cases hg : g' = g
    · subst hg; exact ⟨g', e, hB, cs', hc', hs⟩
    · exact ⟨g', e, hB, cs0, hc, by rw [ho g' hg]; exact h⟩
  · obtain ⟨g', e, hB, cs0, hc, h⟩ := h
    by_cases hg : g' = g
    · subst hg; exact ⟨g', e, hB, cs', hc', hs⟩
    · exact ⟨g', e, hB, cs0, hc, by rw [ho g' hg]; exact h⟩
  · obtain ⟨g', a, b, c, d, e, hB, h1, h2⟩ := h
    exact ⟨g', a, b, c, d, e, hB, by rw [ho g' (by rintro rfl; exact h6 rfl e)]; exact h1, h2.far hb ho⟩
  · obtain ⟨g', a, b, c, d, e, hB, h1, h2⟩ := h
    exact ⟨g', a, b, c, d, e, hB, by rw [ho g' (by rintro rfl; exact h7 rfl e)]; exact h1, h2.far hb ho⟩
  · trivial
end

def idsA (b : Nat) (k1 c1 m1 : Int) (s1 : ByteArray) (n1 o1 : Nat) (k2 c2 m2 : Int) (s2 : ByteArray) (n2 o2 : Nat) (a1 a2 pa1 da1 pa2 da2 : Option Addr) (d1 d2 pc1 dc1 pc2 dc2 : Nat) (I1 I2 : ByteArray) (Z : Bool) : Nat → Value → World → Prop
  | 0, v, _ => v = .agg #[.int .i64 k1, .int .u8 c1, .int .u8 m1, .slice pa1 n1 pc1, .string s1, .slice da1 o1 dc1]
  | 1, v, _ => v = .string I1
  | 2, v, _ => v = .agg #[.int .i64 k2, .int .u8 c2, .int .u8 m2, .slice pa2 n2 pc2, .string s2, .slice da2 o2 dc2]
  | 3, v, _ => v = .string I1
  | 4, v, _ => v = .bool true
  | 5, v, _ => v = .bool true
  | 6, v, _ => v = .pointer (some ⟨b, 3, none⟩)
  | 7, v, _ => v = .slice a1 n1 d1
  | 8, v, _ => v = .pointer (some ⟨b + 1, 3, none⟩)
  | 9, v, _ => v = .slice a2 n2 d2
  | 10, v, _ => v = .bool Z
  | 11, v, _ => v = .bool Z
  | 12, v, _ => v = .bool Z
  | _, _, _ => True
theorem idsA.gr {b : Nat} {k1 c1 m1 : Int} {s1 : ByteArray} {n1 o1 : Nat} {k2 c2 m2 : Int} {s2 : ByteArray} {n2 o2 : Nat} {a1 a2 pa1 da1 pa2 da2 : Option Addr} {d1 d2 pc1 dc1 pc2 dc2 : Nat} {I1 I2 : ByteArray} {Z : Bool} {w1 w2 : World} {j : Nat} {u : Value} (h : idsA b k1 c1 m1 s1 n1 o1 k2 c2 m2 s2 n2 o2 a1 a2 pa1 da1 pa2 da2 d1 d2 pc1 dc1 pc2 dc2 I1 I2 Z j u w1) (hg : Gr w1 w2) : idsA b k1 c1 m1 s1 n1 o1 k2 c2 m2 s2 n2 o2 a1 a2 pa1 da1 pa2 da2 d1 d2 pc1 dc1 pc2 dc2 I1 I2 Z j u w2 := by
  unfold idsA at h ⊢
  split <;> first | exact h | skip
  all_goals trivial
def idsB (b : Nat) (k1 c1 m1 : Int) (s1 : ByteArray) (n1 o1 : Nat) (k2 c2 m2 : Int) (s2 : ByteArray) (n2 o2 : Nat) (a1 a2 pa1 da1 pa2 da2 : Option Addr) (d1 d2 pc1 dc1 pc2 dc2 : Nat) (I1 I2 : ByteArray) (Z : Bool) : Nat → Value → World → Prop
  | 0, v, _ => v = .agg #[.int .i64 k1, .int .u8 c1, .int .u8 m1, .slice pa1 n1 pc1, .string s1, .slice da1 o1 dc1]
  | 1, v, _ => v = .string I1
  | 2, v, _ => v = .agg #[.int .i64 k2, .int .u8 c2, .int .u8 m2, .slice pa2 n2 pc2, .string s2, .slice da2 o2 dc2]
  | 3, v, _ => v = .string I2
  | 4, v, _ => v = .bool false
  | 5, v, _ => v = .bool false
  | 6, _, _ => True
  | 7, _, _ => True
  | 8, _, _ => True
  | 9, _, _ => True
  | 10, _, _ => True
  | 11, v, _ => v = .bool false
  | 12, v, _ => v = .bool false
  | _, _, _ => True
theorem idsB.gr {b : Nat} {k1 c1 m1 : Int} {s1 : ByteArray} {n1 o1 : Nat} {k2 c2 m2 : Int} {s2 : ByteArray} {n2 o2 : Nat} {a1 a2 pa1 da1 pa2 da2 : Option Addr} {d1 d2 pc1 dc1 pc2 dc2 : Nat} {I1 I2 : ByteArray} {Z : Bool} {w1 w2 : World} {j : Nat} {u : Value} (h : idsB b k1 c1 m1 s1 n1 o1 k2 c2 m2 s2 n2 o2 a1 a2 pa1 da1 pa2 da2 d1 d2 pc1 dc1 pc2 dc2 I1 I2 Z j u w1) (hg : Gr w1 w2) : idsB b k1 c1 m1 s1 n1 o1 k2 c2 m2 s2 n2 o2 a1 a2 pa1 da1 pa2 da2 d1 d2 pc1 dc1 pc2 dc2 I1 I2 Z j u w2 := by
  unfold idsB at h ⊢
  split <;> first | exact h | skip
  all_goals trivial

set_option maxRecDepth 100000 in
set_option maxHeartbeats 8000000 in
theorem functions_walk {w : World} {T1 T2 : Tok} {k1 c1 m1 r1 k2 c2 m2 r2 : Int} {s1 s2 : ByteArray} {a1 b1 a2 b2 : Option Addr} {n1 d1 o1 e1 n2 d2 o2 e2 : Nat} (K1 : TokKit w T1 k1 c1 m1 s1 a1 b1 n1 d1 o1 e1 r1) (K2 : TokKit w T2 k2 c2 m2 s2 a2 b2 n2 d2 o2 e2 r2) (hT : tabT w) :
    Calls Tryd.prog 5 #[.agg #[.int .i64 k1, .int .u8 c1, .int .u8 m1, .slice a1 n1 d1, .string s1, .slice b1 o1 e1], .agg #[.int .i64 k2, .int .u8 c2, .int .u8 m2, .slice a2 n2 d2, .string s2, .slice b2 o2 e2]] w fun e w' => e = .returned (.bool true) ∧ Gr w w' := by
  have haw := fun (W : World) (hg : Gr w W) => awake11 (hT.gr hg)
  have hb1 := heap_alloc_new w (.cells #[.int .i64 k1, .int .u8 c1, .int .u8 m1, .slice a1 n1 d1, .string s1, .slice b1 o1 e1] 25)
  have hb2 := heap_new2 w (.cells #[.int .i64 k1, .int .u8 c1, .int .u8 m1, .slice a1 n1 d1, .string s1, .slice b1 o1 e1] 25) (.cells #[.int .i64 k2, .int .u8 c2, .int .u8 m2, .slice a2 n2 d2, .string s2, .slice b2 o2 e2] 25)
  have hw0 := ((Gr.refl w).alloc (.cells #[.int .i64 k1, .int .u8 c1, .int .u8 m1, .slice a1 n1 d1, .string s1, .slice b1 o1 e1] 25)).alloc (.cells #[.int .i64 k2, .int .u8 c2, .int .u8 m2, .slice a2 n2 d2, .string s2, .slice b2 o2 e2] 25)
  have hb1 : ∀ w9, Gr ((w.alloc (.cells #[.int .i64 k1, .int .u8 c1, .int .u8 m1, .slice a1 n1 d1, .string s1, .slice b1 o1 e1] 25)).alloc (.cells #[.int .i64 k2, .int .u8 c2, .int .u8 m2, .slice a2 n2 d2, .string s2, .slice b2 o2 e2] 25)) w9 → w9.heap[w.heap.size]? = some (.cells #[.int .i64 k1, .int .u8 c1, .int .u8 m1, .slice a1 n1 d1, .string s1, .slice b1 o1 e1] 25 (0, 0)) := fun w9 hg => hg.blk (((Gr.refl _).alloc _).blk hb1)
  have hb2 : ∀ w9, Gr ((w.alloc (.cells #[.int .i64 k1, .int .u8 c1, .int .u8 m1, .slice a1 n1 d1, .string s1, .slice b1 o1 e1] 25)).alloc (.cells #[.int .i64 k2, .int .u8 c2, .int .u8 m2, .slice a2 n2 d2, .string s2, .slice b2 o2 e2] 25)) w9 → w9.heap[w.heap.size + 1]? = some (.cells #[.int .i64 k2, .int .u8 c2, .int .u8 m2, .slice a2 n2 d2, .string s2, .slice b2 o2 e2] 25 (0, 0)) := fun w9 hg => hg.blk hb2
  go_enter Tryd.func5, Tryd.ntmps5
  go_upto_region 1 with (fail)
  obtain ⟨wb, hwb⟩ : ∃ wb, wb = (w.alloc (.cells #[.int .i64 k1, .int .u8 c1, .int .u8 m1, .slice a1 n1 d1, .string s1, .slice b1 o1 e1] 25)).alloc (.cells #[.int .i64 k2, .int .u8 c2, .int .u8 m2, .slice a2 n2 d2, .string s2, .slice b2 o2 e2] 25) := ⟨_, rfl⟩
  rw [← hwb] at hb1 hb2 hw0 ⊢
  have hS1 := fun (w9 : World) (hg : Gr wb w9) => cells6 (hb1 w9 hg)
  have hS2 := fun (w9 : World) (hg : Gr wb w9) => cells6 (hb2 w9 hg)
  have hbz : w.heap.size + 1 < wb.heap.size := by rw [hwb]; simp
  clear hwb
  have P1 := Lib.hid K1.parts
  have P2 := Lib.hid K2.parts
  by_cases hk1 : k1 = 4
  case neg =>
    have q1 : (k1 != 4) = true := by simpa using hk1
    go_wp2_with (go_at_call 8; (with_reducible refine (haw _ hw0).mono ?_); rintro e w1 ⟨rfl, hg1⟩; obtain ⟨x0, x1, x2, x3, x4, x5, xf⟩ := hS1 _ hg1; obtain ⟨y0, y1, y2, y3, y4, y5, yf⟩ := hS2 _ hg1)
    go_ret
    exact ⟨rfl, hw0.trans hg1⟩
  by_cases hk2 : k2 = 4
  case neg =>
    have q2 : (k2 != 4) = true := by simpa using hk2
    have q1 : (k1 != 4) = false := by simpa using hk1
    go_wp2_with (go_at_call 8; (with_reducible refine (haw _ hw0).mono ?_); rintro e w1 ⟨rfl, hg1⟩; obtain ⟨x0, x1, x2, x3, x4, x5, xf⟩ := hS1 _ hg1; obtain ⟨y0, y1, y2, y3, y4, y5, yf⟩ := hS2 _ hg1)
    go_ret
    exact ⟨rfl, hw0.trans hg1⟩
  by_cases hr1 : r1 = 0
  case neg =>
    have q1 : (r1 != 0) = true := by simpa using hr1
    subst hk1; subst hk2
    go_wp2_with (first
      | (go_at_call 8; (with_reducible refine (haw _ hw0).mono ?_); rintro e w1 ⟨rfl, hg1⟩; obtain ⟨x0, x1, x2, x3, x4, x5, xf⟩ := hS1 _ hg1; obtain ⟨y0, y1, y2, y3, y4, y5, yf⟩ := hS2 _ hg1)
      | (go_at_call 11; (with_reducible refine (K1.rcheck _ (hw0.trans hg1)).mono ?_); rintro e w2 ⟨rfl, hg2⟩))
    go_ret
    exact ⟨rfl, hw0.trans (hg1.trans hg2)⟩
  by_cases hr2 : r2 = 0
  case neg =>
    have q1 : (r2 != 0) = true := by simpa using hr2
    subst hk1; subst hk2; subst hr1
    go_wp2_with (first
      | (go_at_call 8; (with_reducible refine (haw _ hw0).mono ?_); rintro e w1 ⟨rfl, hg1⟩; obtain ⟨x0, x1, x2, x3, x4, x5, xf⟩ := hS1 _ hg1; obtain ⟨y0, y1, y2, y3, y4, y5, yf⟩ := hS2 _ hg1)
      | (go_at_call 11; (first
         | ((with_reducible refine (K1.rcheck _ (hw0.trans hg1)).mono ?_); rintro e w2 ⟨rfl, hg2⟩; obtain ⟨z0, z1, z2, z3, z4, z5, zf⟩ := hS2 _ (hg1.trans hg2))
         | ((with_reducible refine (K2.rcheck _ ((hw0.trans hg1).trans hg2)).mono ?_); rintro e w4 ⟨rfl, hg4⟩))))
    go_ret
    exact ⟨rfl, hw0.trans ((hg1.trans hg2).trans hg4)⟩
  subst hk1; subst hk2; subst hr1; subst hr2
  go_upto_region 5 with (first
    | (go_at_call 8; (with_reducible refine (haw _ hw0).mono ?_); rintro e w1 ⟨rfl, hg1⟩; obtain ⟨x0, x1, x2, x3, x4, x5, xf⟩ := hS1 _ hg1; obtain ⟨y0, y1, y2, y3, y4, y5, yf⟩ := hS2 _ hg1)
    | (go_at_call 11; (first
       | ((with_reducible refine (K1.rcheck _ (hw0.trans hg1)).mono ?_); rintro e w2 ⟨rfl, hg2⟩; obtain ⟨z0, z1, z2, z3, z4, z5, zf⟩ := hS2 _ (hg1.trans hg2))
       | ((with_reducible refine (K2.rcheck _ ((hw0.trans hg1).trans hg2)).mono ?_); rintro e wR ⟨rfl, hg4⟩))))
  have hgbR := (hg1.trans hg2).trans hg4
  have hgR := hw0.trans hgbR
  have HS1 := Lib.hid (fun (w9 : World) (hg : Gr wR w9) => hS1 w9 (hgbR.trans hg))
  have HS2 := Lib.hid (fun (w9 : World) (hg : Gr wR w9) => hS2 w9 (hgbR.trans hg))
  have HZ := Lib.hid (gr_le hgbR)
  have HB := Lib.hid hbz
  clear x0 x1 x2 x3 x4 x5 xf y0 y1 y2 y3 y4 y5 yf z0 z1 z2 z3 z4 z5 zf hS1 hS2 hb1 hb2 hg1 hg2 hg4 hgbR haw hw0 hbz
  refine wp_region_facts5 (twoF wR T1 T2 4 c1 m1 s1 n1 o1 4 c2 m2 s2 n2 o2 (.agg #[.int .i64 4, .int .u8 c1, .int .u8 m1, .slice a1 n1 d1, .string s1, .slice b1 o1 e1]) (.agg #[.int .i64 4, .int .u8 c2, .int .u8 m2, .slice a2 n2 d2, .string s2, .slice b2 o2 e2])) twoD (Gr wR) (by kernel_rfl) (by kernel_rfl) (by kernel_rfl) ?_ ((Gr.refl _).drew) ?_ ?_
  · intro j o ho ys zs w' hj he hF
    match j, ho, hj, hF with
    | 0, ho, hj, hF | 1, ho, hj, hF | 2, ho, hj, hF | 3, ho, hj, hF | 4, ho, hj, hF | 5, ho, hj, hF => simp only [twoF] at hF ⊢; rw [← hj]; exact hF
    | 6, ho, hj, hF =>
      simp at ho; subst ho
      have := he ⟨4, .data⟩ (by simp) rfl
      simp only [twoF] at hF ⊢; rw [← this]; exact hF
    | 7, ho, hj, hF =>
      simp at ho; subst ho
      have := he ⟨5, .data⟩ (by simp) rfl
      simp only [twoF] at hF ⊢; rw [← this]; exact hF
    | _ + 8, ho, _, _ => simp at ho
  · refine Steps2.cons1 1 rfl rfl ?_ (Steps2.cons1 2 rfl rfl ?_ (Steps2.cons1 3 rfl rfl ?_ (Steps2.cons1 4 rfl rfl ?_ (Steps2.cons1 5 rfl rfl ?_ (Steps2.cons1 6 rfl rfl ?_ (Steps2.cons1 7 rfl rfl ?_ (Steps2.cons1 8 rfl rfl ?_ (Steps2.nil))))))))
    · (intro L ys w' hB hD hP hn; simp only [LAll, Region.binds, forall_const, and_true, true_and] at hP)
      obtain ⟨q0, q1, q2, q3, q4, q5, qf⟩ := HS1.out _ hB
      intro K hK
      simp only [fillA]
      go_simp
      have h2 := hK (.agg #[.int .i64 4, .int .u8 c1, .int .u8 m1, .slice a1 n1 d1, .string s1, .slice b1 o1 e1]) w' hB (setY_at ys 0 _) (fun j _ h => h) (fun j _ => ⟨fun _ h4 => by omega, fun _ h4 h5 => by omega⟩)
      simp [fillA, Act.put] at h2
      exact h2
    · (intro L ys w' hB hD hP hn; simp only [LAll, Region.binds, forall_const, and_true, true_and] at hP)
      have f0 : ys 0 = .agg #[.int .i64 4, .int .u8 c1, .int .u8 m1, .slice a1 n1 d1, .string s1, .slice b1 o1 e1] := hD.fact 0 (by first | exact hP | exact hP.1 | exact hP.2.1 | exact hP.2.2.1 | exact hP.2 | exact hP.2.2)
      intro K hK
      simp only [fillA]
      go_simp
      (with_reducible refine (K1.own _ (hgR.trans hB)).mono ?_)
      rintro e w4 ⟨pa, pc, da, dc, rfl, hO, hg⟩
      have h2 := hK (.agg #[.int .i64 4, .int .u8 c1, .int .u8 m1, .slice pa n1 pc, .string s1, .slice da o1 dc]) w4 (hB.trans hg) ⟨pa, pc, da, dc, setY_at ys 1 _, hO.mono (gr_le hB)⟩ (fun j _ h => h.gr hg) (fun j _ => ⟨fun _ h4 => by omega, fun _ h4 h5 => by omega⟩)
      simp [fillA, Act.put, f0] at h2
      exact h2
    · (intro L ys w' hB hD hP hn; simp only [LAll, Region.binds, forall_const, and_true, true_and] at hP)
      obtain ⟨q0, q1, q2, q3, q4, q5, qf⟩ := HS2.out _ hB
      intro K hK
      simp only [fillA]
      go_simp
      have h2 := hK (.agg #[.int .i64 4, .int .u8 c2, .int .u8 m2, .slice a2 n2 d2, .string s2, .slice b2 o2 e2]) w' hB (setY_at ys 2 _) (fun j _ h => h) (fun j _ => ⟨fun _ h4 => by omega, fun _ h4 h5 => by omega⟩)
      simp [fillA, Act.put] at h2
      exact h2
    · (intro L ys w' hB hD hP hn; simp only [LAll, Region.binds, forall_const, and_true, true_and] at hP)
      have f0 : ys 2 = .agg #[.int .i64 4, .int .u8 c2, .int .u8 m2, .slice a2 n2 d2, .string s2, .slice b2 o2 e2] := hD.fact 2 (by first | exact hP | exact hP.1 | exact hP.2.1 | exact hP.2.2.1 | exact hP.2 | exact hP.2.2)
      intro K hK
      simp only [fillA]
      go_simp
      (with_reducible refine (K2.own _ (hgR.trans hB)).mono ?_)
      rintro e w4 ⟨pa, pc, da, dc, rfl, hO, hg⟩
      have h2 := hK (.agg #[.int .i64 4, .int .u8 c2, .int .u8 m2, .slice pa n2 pc, .string s2, .slice da o2 dc]) w4 (hB.trans hg) ⟨pa, pc, da, dc, setY_at ys 3 _, hO.mono (gr_le hB)⟩ (fun j _ h => h.gr hg) (fun j _ => ⟨fun _ h4 => by omega, fun _ h4 h5 => by omega⟩)
      simp [fillA, Act.put, f0] at h2
      exact h2
    · (intro L ys w' hB hD hP hn; simp only [LAll, Region.binds, forall_const, and_true, true_and] at hP)
      have hno : ∀ v : Value, ys 5 = v → L 5 → v ≠ .pointer (some ⟨w'.heap.size, 0, none⟩) := by
        rintro v rfl hl e
        obtain ⟨g, h1, _, cs, _, h4⟩ := hD.fact 5 hl
        rw [e] at h1
        simp at h1
        subst h1
        simp at h4
      intro K hK
      simp only [fillA]
      go_simp
      have h2 := hK (.pointer (some ⟨w'.heap.size, 0, none⟩)) (w'.alloc (.cells #[.int .i64 0, .int .u8 0, .int .u8 0, .slice none 0 0, .string ⟨#[]⟩, .slice none 0 0] 27)) (hB.alloc _) ⟨_, setY_at ys 4 _, gr_le hB, _, rfl, heap_alloc_new _ _⟩ (fun j _ h => h.gr ((Gr.refl _).alloc _)) (fun j hj => ⟨fun _ h4 h5 e => by subst h5; exact hno _ rfl hj e.symm, fun _ h4 h5 => by omega⟩)
      simp [fillA, Act.put] at h2
      exact h2
    · (intro L ys w' hB hD hP hn; simp only [LAll, Region.binds, forall_const, and_true, true_and] at hP)
      have hno : ∀ v : Value, ys 4 = v → L 4 → v ≠ .pointer (some ⟨w'.heap.size, 0, none⟩) := by
        rintro v rfl hl e
        obtain ⟨g, h1, _, cs, _, h4⟩ := hD.fact 4 hl
        rw [e] at h1
        simp at h1
        subst h1
        simp at h4
      intro K hK
      simp only [fillA]
      go_simp
      have h2 := hK (.pointer (some ⟨w'.heap.size, 0, none⟩)) (w'.alloc (.cells #[.int .i64 0, .int .u8 0, .int .u8 0, .slice none 0 0, .string ⟨#[]⟩, .slice none 0 0] 27)) (hB.alloc _) ⟨_, setY_at ys 5 _, gr_le hB, _, rfl, heap_alloc_new _ _⟩ (fun j _ h => h.gr ((Gr.refl _).alloc _)) (fun j hj => ⟨fun _ h4 h5 => by omega, fun _ h4 h5 e => by subst h4; exact hno _ rfl hj e⟩)
      simp [fillA, Act.put] at h2
      exact h2
    · (intro L ys w' hB hD hP hn; simp only [LAll, Region.binds, forall_const, and_true, true_and] at hP)
      have l0 : L 4 := (by first | exact hP | exact hP.1 | exact hP.2.1 | exact hP.2.2.1 | exact hP.2 | exact hP.2.2)
      obtain ⟨g, f4, hge, cs, hcs, hblk⟩ : ∃ g, ys 4 = .pointer (some ⟨g, 0, none⟩) ∧ wR.heap.size ≤ g ∧ ∃ cs : Array Value, cs.size = 6 ∧ w'.heap[g]? = some (.cells cs 27 (0, 0)) := hD.fact 4 l0
      obtain ⟨pa, pc, da, dc, f1, hO⟩ : ∃ pa pc da dc, ys 1 = .agg #[.int .i64 4, .int .u8 c1, .int .u8 m1, .slice pa n1 pc, .string s1, .slice da o1 dc] ∧ OTok wR.heap.size w' T1 (.slice pa n1 pc, .slice da o1 dc) := hD.fact 1 (by first | exact hP | exact hP.1 | exact hP.2.1 | exact hP.2.2.1 | exact hP.2 | exact hP.2.2)
      have hs := setRow_heap w' g cs #[.int .i64 4, .int .u8 c1, .int .u8 m1, .slice pa n1 pc, .string s1, .slice da o1 dc] 27 (0, 0) hblk
      have ho := fun k (hk : k ≠ g) => setRow_other w' g k #[.int .i64 4, .int .u8 c1, .int .u8 m1, .slice pa n1 pc, .string s1, .slice da o1 dc] hk
      intro K hK
      with_reducible refine wp_store_row 27 (.tmp 5) (.tmp 29) ?ho8 g #[.int .i64 4, .int .u8 c1, .int .u8 m1, .slice pa n1 pc, .string s1, .slice da o1 dc] ?hx8 ?hy8 27 cs hblk ?hi8 ?hc8 ?h18 ?hh8
      case hc8 => exact hcs
      case ho8 => rfl
      case hx8 => simp [Act.eval, fillA, Act.put, f4]
      case hy8 => simp [Act.eval, fillA, Act.put, f1]
      case hi8 => kernel_rfl
      case h18 => simp [Value.oneCell']
      case hh8 =>
        refine hK undef _ ?_ ⟨g, pa, pc, da, dc, f4, hge, hs, hO.far hblk ho⟩ (fun j hl h => h.set hblk hs rfl ho (fun h => absurd (h ▸ hl) hn) (fun h e => by subst h; have hLo : L 5 := hD.back 7 _ hl rfl ⟨5, .data⟩ (by simp) rfl; exact hD.two 4 5 l0 hLo (by decide) rfl rfl (f4.trans e.symm))) (fun j _ => ⟨fun _ h4 => by omega, fun _ h4 h5 => by omega⟩)
        exact ⟨hB.os, hB.tape, hB.output, by have := hB.size; simpa [World.setRow] using this, fun j hj => by rw [setRow_other _ _ _ _ (by omega)]; exact hB.block j hj⟩
    · (intro L ys w' hB hD hP hn; simp only [LAll, Region.binds, forall_const, and_true, true_and] at hP)
      have l0 : L 5 := (by first | exact hP | exact hP.1 | exact hP.2.1 | exact hP.2.2.1 | exact hP.2 | exact hP.2.2)
      obtain ⟨g, f4, hge, cs, hcs, hblk⟩ : ∃ g, ys 5 = .pointer (some ⟨g, 0, none⟩) ∧ wR.heap.size ≤ g ∧ ∃ cs : Array Value, cs.size = 6 ∧ w'.heap[g]? = some (.cells cs 27 (0, 0)) := hD.fact 5 l0
      obtain ⟨pa, pc, da, dc, f1, hO⟩ : ∃ pa pc da dc, ys 3 = .agg #[.int .i64 4, .int .u8 c2, .int .u8 m2, .slice pa n2 pc, .string s2, .slice da o2 dc] ∧ OTok wR.heap.size w' T2 (.slice pa n2 pc, .slice da o2 dc) := hD.fact 3 (by first | exact hP | exact hP.1 | exact hP.2.1 | exact hP.2.2.1 | exact hP.2 | exact hP.2.2)
      have hs := setRow_heap w' g cs #[.int .i64 4, .int .u8 c2, .int .u8 m2, .slice pa n2 pc, .string s2, .slice da o2 dc] 27 (0, 0) hblk
      have ho := fun k (hk : k ≠ g) => setRow_other w' g k #[.int .i64 4, .int .u8 c2, .int .u8 m2, .slice pa n2 pc, .string s2, .slice da o2 dc] hk
      intro K hK
      with_reducible refine wp_store_row 27 (.tmp 6) (.tmp 31) ?ho8 g #[.int .i64 4, .int .u8 c2, .int .u8 m2, .slice pa n2 pc, .string s2, .slice da o2 dc] ?hx8 ?hy8 27 cs hblk ?hi8 ?hc8 ?h18 ?hh8
      case hc8 => exact hcs
      case ho8 => rfl
      case hx8 => simp [Act.eval, fillA, Act.put, f4]
      case hy8 => simp [Act.eval, fillA, Act.put, f1]
      case hi8 => kernel_rfl
      case h18 => simp [Value.oneCell']
      case hh8 =>
        refine hK undef _ ?_ ⟨g, pa, pc, da, dc, f4, hge, hs, hO.far hblk ho⟩ (fun j hl h => h.set hblk hs rfl ho (fun h e => by subst h; have hLo : L 4 := hD.back 6 _ hl rfl ⟨4, .data⟩ (by simp) rfl; exact hD.two 4 5 hLo l0 (by decide) rfl rfl (e.trans f4.symm)) (fun h => absurd (h ▸ hl) hn)) (fun j _ => ⟨fun _ h4 => by omega, fun _ h4 h5 => by omega⟩)
        exact ⟨hB.os, hB.tape, hB.output, by have := hB.size; simpa [World.setRow] using this, fun j hj => by rw [setRow_other _ _ _ _ (by omega)]; exact hB.block j hj⟩
  · intro ys w3 hB hF hDD
    obtain ⟨g5, pa1, pc1, da1, dc1, f4, hge5, hblk5, hO1⟩ : ∃ g pa pc da dc, ys 4 = .pointer (some ⟨g, 0, none⟩) ∧ wR.heap.size ≤ g ∧ w3.heap[g]? = some (.cells #[.int .i64 4, .int .u8 c1, .int .u8 m1, .slice pa n1 pc, .string s1, .slice da o1 dc] 27 (0, 0)) ∧ OTok wR.heap.size w3 T1 (.slice pa n1 pc, .slice da o1 dc) := hF 6 (by decide)
    obtain ⟨g6, pa2, pc2, da2, dc2, f5, hge6, hblk6, hO2⟩ : ∃ g pa pc da dc, ys 5 = .pointer (some ⟨g, 0, none⟩) ∧ wR.heap.size ≤ g ∧ w3.heap[g]? = some (.cells #[.int .i64 4, .int .u8 c2, .int .u8 m2, .slice pa n2 pc, .string s2, .slice da o2 dc] 27 (0, 0)) ∧ OTok wR.heap.size w3 T2 (.slice pa n2 pc, .slice da o2 dc) := hF 7 (by decide)
    have hne : g5 ≠ g6 := fun e => hDD 4 5 (by decide) (by decide) rfl rfl (by rw [f4, f5, e])
    clear hF hDD
    simp only [fillA, f4, f5, Act.put, Nat.zero_add, List.setIfInBounds_toArray, List.set_cons_zero, List.set_cons_succ]
    clear f4 f5
    have hg3R := hB
    have hgw3 := hgR.trans hB
    have hcn1 : Can T1 := check_zero K1.range (by rw [← P1.out.2.2.2.2])
    have hcn2 : Can T2 := check_zero K2.range (by rw [← P2.out.2.2.2.2])
    obtain ⟨hA, hBn, hl1, hl5⟩ := csi_id hcn1 hcn2 P1.out.1 P2.out.1
    have hR1 := hO1.r
    have hR2 := hO2.r
    have hid1 := fun (W : World) => K1.id W pa1 pc1 da1 dc1
    have hid2 := fun (W : World) => K2.id W pa2 pc2 da2 dc2
    have hsi := fun (W : World) (hg : Gr w3 W) => same_ints_rd (c1 := d1) (c2 := d2) (K1.here.params.gr (hgw3.trans hg)) (K2.here.params.gr (hgw3.trans hg)) K1.small.1
    have hps := fun (W : World) (hg : Gr w3 W) => psame_any (c1 := pc1) (c2 := dc1) (d1 := pc2) (d2 := dc2) K1.range K2.range (RdTok.of_r (hR1.gr hg) K1.len1 K1.len2 K1.small) (RdTok.of_r (hR2.gr hg) K2.len1 K2.len2 K2.small)
    rw [P1.out.1, P1.out.2.1, P1.out.2.2.1, P1.out.2.2.2.1, P2.out.1, P2.out.2.1, P2.out.2.2.1, P2.out.2.2.2.1] at hps
    unfold IdOut at hid1 hid2
    obtain ⟨i1, hi1⟩ : ∃ i, i = idR T1.kind T1.code T1.mark T1.inters := ⟨_, rfl⟩
    obtain ⟨i2, hi2⟩ : ∃ i, i = idR T2.kind T2.code T2.mark T2.inters := ⟨_, rfl⟩
    rw [← hi1] at hid1 hA hBn hl1 hl5
    rw [← hi2] at hid2 hA hBn
    have hr1 : ∀ c ∈ i1, 0 ≤ c ∧ c < 256 := by rw [hi1]; exact idR_in K1.range
    have hr2 : ∀ c ∈ i2, 0 ≤ c ∧ c < 256 := by rw [hi2]; exact idR_in K2.range
    have hsz1 : 1 ≤ (strOf i1).size ∧ (strOf i1).size ≤ 5 := by rw [strOf_size']; exact ⟨hl1, hl5⟩
    have HX := Lib.hid (fun (w9 : World) (hg : Gr w3 w9) => cells6 (hg.blk hblk5))
    have HY := Lib.hid (fun (w9 : World) (hg : Gr w3 w9) => cells6 (hg.blk hblk6))
    clear hi1 hi2 hblk5 hblk6 hO1 hO2 hR1 hR2 hB hcn1 hcn2 K1 K2 hT
    by_cases he : i1 = i2
    · have hZ := hA he
      subst he
      obtain ⟨Z, hz⟩ : ∃ Z, Z = (T1.params == T2.params) := ⟨_, rfl⟩
      rw [← hz] at hZ hsi
      rw [hZ] at hps
      obtain ⟨I1, hI1⟩ : ∃ I, I = strOf i1 := ⟨_, rfl⟩
      rw [← hI1] at hid1 hid2 hsz1
      obtain ⟨hsz1, hsz2⟩ := hsz1
      have HI1 := Lib.hid hid1
      have HI2 := Lib.hid hid2
      have HSI := Lib.hid hsi
      have HPS := Lib.hid hps
      clear hid1 hid2 hsi hps hZ hz hI1 hA hBn hr1 hr2 hl1 hl5
      have hq1 : (1 : Int) ≤ (I1.size : Int) := by omega
      have hq2 : (I1.size : Int) ≤ 5 := by omega
      have hq3 : 0 < I1.size := by omega
      have hq4 : decide ((I1.size : Int) ≤ 5) = true := by simp; omega
      go_upto_region 6 with (fail)
      refine wp_region_facts6 (idsA w.heap.size 4 c1 m1 s1 n1 o1 4 c2 m2 s2 n2 o2 a1 a2 pa1 da1 pa2 da2 d1 d2 pc1 dc1 pc2 dc2 I1 I1 Z) (Gr w3) (by kernel_rfl) (by kernel_rfl) (by kernel_rfl) ((Gr.refl _).drew) ?_ ?_
      · intro hap
        refine Steps.cons1 1 rfl rfl ?_ (Steps.cons1 2 rfl rfl ?_ (Steps.cons1 3 rfl rfl ?_ (Steps.cons1 4 rfl rfl ?_ (Steps.cons1 5 rfl rfl ?_ (Steps.cons1 6 rfl rfl ?_ (Steps.consY 7 rfl 5 true rfl hap (by kernel_rfl) ?_ ?_ (Steps.consY 8 rfl 5 true rfl hap (by kernel_rfl) ?_ ?_ (Steps.consY 9 rfl 5 true rfl hap (by kernel_rfl) ?_ ?_ (Steps.consY 10 rfl 5 true rfl hap (by kernel_rfl) ?_ ?_ (Steps.consY 11 rfl 5 true rfl hap (by kernel_rfl) ?_ ?_ (Steps.cons1 12 rfl rfl ?_ (Steps.cons1 13 rfl rfl ?_ (Steps.nil)))))))))))))
        · (intro ys w' hB hP; simp only [Preds, Region.binds, idsA, forall_const, and_true, true_and] at hP)
          obtain ⟨q0, q1, q2, q3, q4, q5, qf⟩ := HX.out _ hB
          intro K hK
          simp only [fillA]
          go_simp
          have h2 := hK _ w' hB rfl (fun j u _ h => h)
          simp [fillA, Act.put, hP] at h2
          exact h2
        · (intro ys w' hB hP; simp only [Preds, Region.binds, idsA, forall_const, and_true, true_and] at hP)
          intro K hK
          simp only [fillA]
          go_simp
          (with_reducible refine (HI1.out _).mono ?_)
          rintro e w10 ⟨rfl, hg10⟩
          have h2 := hK _ w10 (hB.trans hg10) rfl (fun j u _ h => h.gr hg10)
          simp [fillA, Act.put, hP] at h2
          exact h2
        · (intro ys w' hB hP; simp only [Preds, Region.binds, idsA, forall_const, and_true, true_and] at hP)
          obtain ⟨q0, q1, q2, q3, q4, q5, qf⟩ := HY.out _ hB
          intro K hK
          simp only [fillA]
          go_simp
          have h2 := hK _ w' hB rfl (fun j u _ h => h)
          simp [fillA, Act.put, hP] at h2
          exact h2
        · (intro ys w' hB hP; simp only [Preds, Region.binds, idsA, forall_const, and_true, true_and] at hP)
          intro K hK
          simp only [fillA]
          go_simp
          (with_reducible refine (HI2.out _).mono ?_)
          rintro e w10 ⟨rfl, hg10⟩
          have h2 := hK _ w10 (hB.trans hg10) rfl (fun j u _ h => h.gr hg10)
          simp [fillA, Act.put, hP] at h2
          exact h2
        · (intro ys w' hB hP K hK; simp only [Preds, Region.binds, idsA, forall_const, and_true, true_and] at hP; simp only [fillA]; go_simp; (have h2 := fun v => hK v w' hB); simp only [idsA, forall_eq] at h2; (have h2 := h2 (fun _ _ _ h => h)); simp [fillA, Act.put, hP] at h2; exact h2)
        · (intro ys w' hB hP K hK; simp only [Preds, Region.binds, idsA, forall_const, and_true, true_and] at hP; simp only [fillA]; go_simp; (have h2 := fun v => hK v w' hB); simp only [idsA, forall_eq] at h2; (have h2 := h2 (fun _ _ _ h => h)); simp [fillA, Act.put, hP] at h2; exact h2)
        · (intro ys w' hB hP; simp only [Preds, Region.binds, idsA, forall_const, and_true, true_and] at hP; simp [hP])
        · (intro ys w' hB hP K hK; simp only [Preds, Region.binds, idsA, forall_const, and_true, true_and] at hP; simp only [fillA]; go_simp; (have h2 := fun v => hK v w' hB); simp only [idsA, forall_eq] at h2; (have h2 := h2 (fun _ _ _ h => h)); simp [fillA, Act.put, hP] at h2; exact h2)
        · (intro ys w' hB hP; simp only [Preds, Region.binds, idsA, forall_const, and_true, true_and] at hP; simp [hP])
        · (intro ys w' hB hP; simp only [Preds, Region.binds, idsA, forall_const, and_true, true_and] at hP)
          obtain ⟨q0, q1, q2, q3, q4, q5, qf⟩ := HS1.out _ (hg3R.trans hB)
          intro K hK
          simp only [fillA]
          go_simp
          have h2 := hK _ w' hB rfl (fun j u _ h => h)
          simp [fillA, Act.put, hP] at h2
          exact h2
        · (intro ys w' hB hP; simp only [Preds, Region.binds, idsA, forall_const, and_true, true_and] at hP; simp [hP])
        · (intro ys w' hB hP K hK; simp only [Preds, Region.binds, idsA, forall_const, and_true, true_and] at hP; simp only [fillA]; go_simp; (have h2 := fun v => hK v w' hB); simp only [idsA, forall_eq] at h2; (have h2 := h2 (fun _ _ _ h => h)); simp [fillA, Act.put, hP] at h2; exact h2)
        · (intro ys w' hB hP; simp only [Preds, Region.binds, idsA, forall_const, and_true, true_and] at hP; simp [hP])
        · (intro ys w' hB hP; simp only [Preds, Region.binds, idsA, forall_const, and_true, true_and] at hP)
          obtain ⟨q0, q1, q2, q3, q4, q5, qf⟩ := HS2.out _ (hg3R.trans hB)
          intro K hK
          simp only [fillA]
          go_simp
          have h2 := hK _ w' hB rfl (fun j u _ h => h)
          simp [fillA, Act.put, hP] at h2
          exact h2
        · (intro ys w' hB hP; simp only [Preds, Region.binds, idsA, forall_const, and_true, true_and] at hP; simp [hP])
        · (intro ys w' hB hP; simp only [Preds, Region.binds, idsA, forall_const, and_true, true_and] at hP)
          intro K hK
          simp only [fillA]
          go_simp
          (with_reducible refine (HSI.out _ hB).mono ?_)
          rintro e w10 ⟨rfl, hg10⟩
          have h2 := hK _ w10 (hB.trans hg10) rfl (fun j u _ h => h.gr hg10)
          simp [fillA, Act.put, hP] at h2
          exact h2
        · (intro ys w' hB hP K hK; simp only [Preds, Region.binds, idsA, forall_const, and_true, true_and] at hP; simp only [fillA]; go_simp; (have h2 := fun v => hK v w' hB); simp only [idsA, forall_eq] at h2; (have h2 := h2 (fun _ _ _ h => h)); simp [fillA, Act.put, hP] at h2; exact h2)
        · (intro ys w' hB hP K hK; simp only [Preds, Region.binds, idsA, forall_const, and_true, true_and] at hP; simp only [fillA]; go_simp; (have h2 := fun v => hK v w' hB); simp only [idsA, forall_eq] at h2; (have h2 := h2 (fun _ _ _ h => h)); simp [fillA, Act.put, hP] at h2; exact h2)
      · intro ys w10 hB hF
        have f12 : ys 12 = .bool Z := hF 12 (by decide)
        clear hF
        simp only [fillA, f12, Act.put, Nat.zero_add, List.setIfInBounds_toArray, List.set_cons_zero, List.set_cons_succ]
        clear f12
        obtain ⟨x0, x1, x2, x3, x4, x5, xf⟩ := HX.out _ hB
        obtain ⟨y0, y1, y2, y3, y4, y5, yf⟩ := HY.out _ hB
        go_wp2_with (first
          | (go_at_call 18; (with_reducible refine (HPS.out _ hB).mono ?_); rintro e w11 ⟨rfl, hg11⟩; obtain ⟨z0, z1, z2, z3, z4, z5, zf⟩ := HX.out _ (hB.trans hg11))
          | (go_at_call 16; (first
             | ((with_reducible refine (HI1.out _).mono ?_); rintro e w12 ⟨rfl, hg12⟩; obtain ⟨v0, v1, v2, v3, v4, v5, vf⟩ := HX.out w12 (by (repeat (first | with_reducible exact Gr.refl _ | with_reducible assumption | with_reducible refine Gr.setCell ?_ (by simp; try omega) _ | with_reducible refine Gr.alloc ?_ _ | with_reducible refine Gr.drew ?_ | with_reducible refine Gr.drewN ?_ _ | with_reducible refine Gr.trans ?_ (by assumption))))))))
        go_ret
        exact ⟨rfl, by (repeat (first | with_reducible exact Gr.refl _ | with_reducible assumption | with_reducible refine Gr.setCell ?_ (by simp; try omega) _ | with_reducible refine Gr.alloc ?_ _ | with_reducible refine Gr.drew ?_ | with_reducible refine Gr.drewN ?_ _ | with_reducible refine Gr.trans ?_ (by assumption)))⟩
    · have hZ := hBn he
      obtain ⟨p1, p2⟩ := str_ne hr1 hr2 he
      rw [hZ] at hps
      obtain ⟨I1, hI1⟩ : ∃ I, I = strOf i1 := ⟨_, rfl⟩
      obtain ⟨I2, hI2⟩ : ∃ I, I = strOf i2 := ⟨_, rfl⟩
      rw [← hI1] at hid1 hsz1 p1 p2
      rw [← hI2] at hid2 p1 p2
      obtain ⟨hsz1, hsz2⟩ := hsz1
      have HI1 := Lib.hid hid1
      have HI2 := Lib.hid hid2
      have HSI := Lib.hid hsi
      have HPS := Lib.hid hps
      clear hid1 hid2 hsi hps hZ hI1 hI2 hA hBn hr1 hr2 hl1 hl5 he
      have hq1 : (1 : Int) ≤ (I1.size : Int) := by omega
      have hq2 : (I1.size : Int) ≤ 5 := by omega
      have hq3 : 0 < I1.size := by omega
      have hq4 : decide ((I1.size : Int) ≤ 5) = true := by simp; omega
      go_upto_region 6 with (fail)
      refine wp_region_facts6 (idsB w.heap.size 4 c1 m1 s1 n1 o1 4 c2 m2 s2 n2 o2 a1 a2 pa1 da1 pa2 da2 d1 d2 pc1 dc1 pc2 dc2 I1 I2 false) (Gr w3) (by kernel_rfl) (by kernel_rfl) (by kernel_rfl) ((Gr.refl _).drew) ?_ ?_
      · intro hap
        refine Steps.cons1 1 rfl rfl ?_ (Steps.cons1 2 rfl rfl ?_ (Steps.cons1 3 rfl rfl ?_ (Steps.cons1 4 rfl rfl ?_ (Steps.cons1 5 rfl rfl ?_ (Steps.cons1 6 rfl rfl ?_ (Steps.consN 7 rfl 5 true rfl hap (by kernel_rfl) ?_ ?_ (Steps.consN 8 rfl 5 true rfl hap (by kernel_rfl) ?_ ?_ (Steps.consN 9 rfl 5 true rfl hap (by kernel_rfl) ?_ ?_ (Steps.consN 10 rfl 5 true rfl hap (by kernel_rfl) ?_ ?_ (Steps.consN 11 rfl 5 true rfl hap (by kernel_rfl) ?_ ?_ (Steps.cons1 12 rfl rfl ?_ (Steps.cons1 13 rfl rfl ?_ (Steps.nil)))))))))))))
        · (intro ys w' hB hP; simp only [Preds, Region.binds, idsB, forall_const, and_true, true_and] at hP)
          obtain ⟨q0, q1, q2, q3, q4, q5, qf⟩ := HX.out _ hB
          intro K hK
          simp only [fillA]
          go_simp
          have h2 := hK _ w' hB rfl (fun j u _ h => h)
          simp [fillA, Act.put, hP] at h2
          exact h2
        · (intro ys w' hB hP; simp only [Preds, Region.binds, idsB, forall_const, and_true, true_and] at hP)
          intro K hK
          simp only [fillA]
          go_simp
          (with_reducible refine (HI1.out _).mono ?_)
          rintro e w10 ⟨rfl, hg10⟩
          have h2 := hK _ w10 (hB.trans hg10) rfl (fun j u _ h => h.gr hg10)
          simp [fillA, Act.put, hP] at h2
          exact h2
        · (intro ys w' hB hP; simp only [Preds, Region.binds, idsB, forall_const, and_true, true_and] at hP)
          obtain ⟨q0, q1, q2, q3, q4, q5, qf⟩ := HY.out _ hB
          intro K hK
          simp only [fillA]
          go_simp
          have h2 := hK _ w' hB rfl (fun j u _ h => h)
          simp [fillA, Act.put, hP] at h2
          exact h2
        · (intro ys w' hB hP; simp only [Preds, Region.binds, idsB, forall_const, and_true, true_and] at hP)
          intro K hK
          simp only [fillA]
          go_simp
          (with_reducible refine (HI2.out _).mono ?_)
          rintro e w10 ⟨rfl, hg10⟩
          have h2 := hK _ w10 (hB.trans hg10) rfl (fun j u _ h => h.gr hg10)
          simp [fillA, Act.put, hP] at h2
          exact h2
        · (intro ys w' hB hP K hK; simp only [Preds, Region.binds, idsB, forall_const, and_true, true_and] at hP; simp only [fillA]; go_simp; (have h2 := fun v => hK v w' hB); simp only [idsB, forall_eq] at h2; (have h2 := h2 (fun _ _ _ h => h)); simp [fillA, Act.put, hP] at h2; exact h2)
        · (intro ys w' hB hP K hK; simp only [Preds, Region.binds, idsB, forall_const, and_true, true_and] at hP; simp only [fillA]; go_simp; (have h2 := fun v => hK v w' hB); simp only [idsB, forall_eq] at h2; (have h2 := h2 (fun _ _ _ h => h)); simp [fillA, Act.put, hP] at h2; exact h2)
        · (intro ys w' hB hP; simp only [Preds, Region.binds, idsB, forall_const, and_true, true_and] at hP; simp [hP])
        · exact fun _ => trivial
        · (intro ys w' hB hP; simp only [Preds, Region.binds, idsB, forall_const, and_true, true_and] at hP; simp [hP])
        · exact fun _ => trivial
        · (intro ys w' hB hP; simp only [Preds, Region.binds, idsB, forall_const, and_true, true_and] at hP; simp [hP])
        · exact fun _ => trivial
        · (intro ys w' hB hP; simp only [Preds, Region.binds, idsB, forall_const, and_true, true_and] at hP; simp [hP])
        · exact fun _ => trivial
        · (intro ys w' hB hP; simp only [Preds, Region.binds, idsB, forall_const, and_true, true_and] at hP; simp [hP])
        · exact fun _ => trivial
        · (intro ys w' hB hP K hK; simp only [Preds, Region.binds, idsB, forall_const, and_true, true_and] at hP; simp only [fillA]; go_simp; (have h2 := fun v => hK v w' hB); simp only [idsB, forall_eq] at h2; (have h2 := h2 (fun _ _ _ h => h)); simp [fillA, Act.put, hP] at h2; exact h2)
        · (intro ys w' hB hP K hK; simp only [Preds, Region.binds, idsB, forall_const, and_true, true_and] at hP; simp only [fillA]; go_simp; (have h2 := fun v => hK v w' hB); simp only [idsB, forall_eq] at h2; (have h2 := h2 (fun _ _ _ h => h)); simp [fillA, Act.put, hP] at h2; exact h2)
      · intro ys w10 hB hF
        have f12 : ys 12 = .bool false := hF 12 (by decide)
        clear hF
        simp only [fillA, f12, Act.put, Nat.zero_add, List.setIfInBounds_toArray, List.set_cons_zero, List.set_cons_succ]
        clear f12
        obtain ⟨x0, x1, x2, x3, x4, x5, xf⟩ := HX.out _ hB
        obtain ⟨y0, y1, y2, y3, y4, y5, yf⟩ := HY.out _ hB
        go_wp2_with (first
          | (go_at_call 18; (with_reducible refine (HPS.out _ hB).mono ?_); rintro e w11 ⟨rfl, hg11⟩; obtain ⟨z0, z1, z2, z3, z4, z5, zf⟩ := HX.out _ (hB.trans hg11))
          | (go_at_call 16; (first
             | ((with_reducible refine (HI1.out _).mono ?_); rintro e w12 ⟨rfl, hg12⟩; obtain ⟨v0, v1, v2, v3, v4, v5, vf⟩ := HX.out w12 (by (repeat (first | with_reducible exact Gr.refl _ | with_reducible assumption | with_reducible refine Gr.setCell ?_ (by simp; try omega) _ | with_reducible refine Gr.alloc ?_ _ | with_reducible refine Gr.drew ?_ | with_reducible refine Gr.drewN ?_ _ | with_reducible refine Gr.trans ?_ (by assumption))))))))
        go_ret
        exact ⟨rfl, by (repeat (first | with_reducible exact Gr.refl _ | with_reducible assumption | with_reducible refine Gr.setCell ?_ (by simp; try omega) _ | with_reducible refine Gr.alloc ?_ _ | with_reducible refine Gr.drew ?_ | with_reducible refine Gr.drewN ?_ _ | with_reducible refine Gr.trans ?_ (by assumption)))⟩
end Go.Proofs.YtgbmjlajheeciaaDoor
