/-
  TokenKeeps: the region that makes the copy longer.
-/
import Derived.Test.YtgbmjlajheeciaaDoorZTkKa
namespace Go.Proofs.YtgbmjlajheeciaaDoor
set_option linter.unusedSimpArgs false
set_option linter.unusedVariables false
open Go.RowKit
set_option linter.unusedVariables false

theorem grown_cell {w w' : World} {v : Option Nat} {g o : Nat} {x : Value} (h : w.grownBy w' v) (hne : some g ≠ v) (hc : w.cell? ⟨g, o, none⟩ = some x) : w'.cell? ⟨g, o, none⟩ = some x := by
  rcases Nat.lt_or_ge g w.heap.size with hl | hl
  · have hb := h.block g hl hne
    simp only [World.cell?] at hc ⊢
    rw [hb]; exact hc
  · simp [World.cell?, Array.getElem?_eq_none hl] at hc
theorem grown_own {w w' : World} {v : Option Nat} {B e n : Nat} {x : Value} {xs : List Value} (h : w.grownBy w' v) (hne : ∀ g, x.ownBlock = some g → some g ≠ v) (hc : w.ownsRow B e 1 x n xs) : w'.ownsRow B e 1 x n xs :=
  ownsRow_same hc fun k hk => h.block k (ownsRow_blk hc hk) (hne k hk)
/-- What the region's operations leave. -/
def kpF (Y R : Nat) (p d : Value) (n1 n2 : Nat) : Nat → (Nat → Value) → World → Prop
  | 0, ys, _ => ys 0 = .pointer (some ⟨Y, 3, none⟩)
  | 1, ys, _ => ys 1 = p
  | 2, ys, w' => ∃ g, ys 2 = .slice (some ⟨g, 0, none⟩) 1 1 ∧ R ≤ g ∧ w'.heap[g]? = some (.cells #[.int .i64 1] 3 (0, 0))
  | 3, ys, _ => ∃ va ca, ys 3 = .slice va (n1 + 1) ca
  | 4, ys, _ => ys 4 = .pointer (some ⟨Y, 5, none⟩)
  | 5, ys, _ => ys 5 = d
  | 6, ys, w' => ∃ g, ys 6 = .slice (some ⟨g, 0, none⟩) 1 1 ∧ R ≤ g ∧ w'.heap[g]? = some (.cells #[.int .u8 1] 5 (0, 0))
  | 7, ys, _ => ∃ va ca, ys 7 = .slice va (n2 + 1) ca
  | 8, ys, _ => ys 8 = .pointer (some ⟨Y, 3, none⟩)
  | 10, ys, _ => ys 10 = .pointer (some ⟨Y, 5, none⟩)
  | _, _, _ => True
/-- What holds till an operation is done. -/
def kpG (Y BP : Nat) (p d : Value) (n1 n2 : Nat) : Nat → World → Prop
  | 3, w' => ∃ l : List Int, w'.ownsRow BP 3 1 p n1 (icells l)
  | 7, w' => ∃ l : List Int, w'.ownsRow BP 5 1 d n2 (bcells l)
  | 9, w' => w'.cell? ⟨Y, 3, none⟩ = some p
  | 11, w' => w'.cell? ⟨Y, 5, none⟩ = some d
  | _, _ => True
structure KpB (wX : World) (Y BP BC R : Nat) (k c m : Int) (s : ByteArray) (p d : Value) (cv : Value) (cn : Nat) (lc : List Int) (w' : World) : Prop where
  gr : Gr wX w'
  size : R ≤ w'.heap.size
  ybox : ∃ x y, w'.heap[Y]? = some (.cells #[.int .i64 k, .int .u8 c, .int .u8 m, x, .string s, y] 27 (0, 0))
  crow : w'.ownsRow BC 5 1 cv cn (bcells lc)
  pb : ∀ g, p.ownBlock = some g → g < Y
  db : ∀ g, d.ownBlock = some g → g < Y
  hB : wX.heap.size ≤ BP
  hX : wX.heap.size ≤ Y
  hC : Y < BC
  hR : Y < R
theorem KpB.gr' {wX w1 w2 : World} {Y BP BC R : Nat} {k c m : Int} {s : ByteArray} {p d cv : Value} {cn : Nat} {lc : List Int} (h : KpB wX Y BP BC R k c m s p d cv cn lc w1) (hg : Gr w1 w2) : KpB wX Y BP BC R k c m s p d cv cn lc w2 := by
  obtain ⟨h1, h2, ⟨x, y, h3⟩, h4, h5, h6, h7, h8, h9, h10⟩ := h
  exact ⟨h1.trans hg, Nat.le_trans h2 hg.size, ⟨x, y, hg.blk h3⟩, ownsRow_gr h4 hg, h5, h6, h7, h8, h9, h10⟩
theorem KpB.grown {wX w1 w2 : World} {Y BP BC R e n : Nat} {k c m : Int} {s : ByteArray} {p d cv v : Value} {cn : Nat} {lc : List Int} {xs : List Value} (h : KpB wX Y BP BC R k c m s p d cv cn lc w1) (hr : w1.ownsRow BP e 1 v n xs) (hv : ∀ g, v.ownBlock = some g → g < Y) (hg : w1.grownBy w2 v.ownBlock) : KpB wX Y BP BC R k c m s p d cv cn lc w2 := by
  obtain ⟨h1, h2, ⟨x, y, h3⟩, h4, h5, h6, h7, h8, h9, h10⟩ := h
  refine ⟨h1.grown hr h7 hg, Nat.le_trans h2 hg.size, ⟨x, y, grown_blk hg (fun e => by have := hv Y e.symm; omega) h3⟩, grown_own hg (fun g hk e => ?_) h4, h5, h6, h7, h8, h9, h10⟩
  have a1 := ownsRow_base h4 hk
  have a2 := hv g e.symm
  omega
theorem KpB.set3 {wX w1 : World} {Y BP BC R : Nat} {k c m : Int} {s : ByteArray} {p d cv : Value} {cn : Nat} {lc : List Int} (h : KpB wX Y BP BC R k c m s p d cv cn lc w1) (u : Value) : KpB wX Y BP BC R k c m s p d cv cn lc (w1.setCell ⟨Y, 3, none⟩ u) := by
  obtain ⟨h1, h2, ⟨x, y, h3⟩, h4, h5, h6, h7, h8, h9, h10⟩ := h
  exact ⟨h1.setCell h8 u, by simpa using h2, ⟨u, y, blk_set h3 3 u⟩, ownsRow_setCell_below h4 h9 u, h5, h6, h7, h8, h9, h10⟩
theorem KpB.set5 {wX w1 : World} {Y BP BC R : Nat} {k c m : Int} {s : ByteArray} {p d cv : Value} {cn : Nat} {lc : List Int} (h : KpB wX Y BP BC R k c m s p d cv cn lc w1) (u : Value) : KpB wX Y BP BC R k c m s p d cv cn lc (w1.setCell ⟨Y, 5, none⟩ u) := by
  obtain ⟨h1, h2, ⟨x, y, h3⟩, h4, h5, h6, h7, h8, h9, h10⟩ := h
  exact ⟨h1.setCell h8 u, by simpa using h2, ⟨x, u, blk_set h3 5 u⟩, ownsRow_setCell_below h4 h9 u, h5, h6, h7, h8, h9, h10⟩
theorem kpF.gr {Y R n1 n2 : Nat} {p d : Value} {w1 w2 : World} {j : Nat} {ys : Nat → Value} (h : kpF Y R p d n1 n2 j ys w1) (hg : Gr w1 w2) : kpF Y R p d n1 n2 j ys w2 := by
  unfold kpF at h ⊢
  split <;> first | exact h | skip
  · obtain ⟨g, e, hb, h⟩ := h; exact ⟨g, e, hb, hg.blk h⟩
  · obtain ⟨g, e, hb, h⟩ := h; exact ⟨g, e, hb, hg.blk h⟩
  · trivial
theorem kpF.grown {Y R n1 n2 : Nat} {p d v : Value} {w1 w2 : World} {j : Nat} {ys : Nat → Value} (h : kpF Y R p d n1 n2 j ys w1) (hv : ∀ g, v.ownBlock = some g → g < Y) (hR : Y < R) (hg : w1.grownBy w2 v.ownBlock) : kpF Y R p d n1 n2 j ys w2 := by
  unfold kpF at h ⊢
  split <;> first | exact h | skip
  · obtain ⟨g, e, hb, h⟩ := h; exact ⟨g, e, hb, grown_blk hg (fun e => by have := hv g e.symm; omega) h⟩
  · obtain ⟨g, e, hb, h⟩ := h; exact ⟨g, e, hb, grown_blk hg (fun e => by have := hv g e.symm; omega) h⟩
  · trivial
theorem kpF.set {Y R n1 n2 o : Nat} {p d u : Value} {w1 : World} {j : Nat} {ys : Nat → Value} (h : kpF Y R p d n1 n2 j ys w1) (hR : Y < R) : kpF Y R p d n1 n2 j ys (w1.setCell ⟨Y, o, none⟩ u) := by
  unfold kpF at h ⊢
  split <;> first | exact h | skip
  · obtain ⟨g, e, hb, h⟩ := h; exact ⟨g, e, hb, blk_far h (by simp; omega) u⟩
  · obtain ⟨g, e, hb, h⟩ := h; exact ⟨g, e, hb, blk_far h (by simp; omega) u⟩
  · trivial
theorem kpG.gr {Y BP n1 n2 : Nat} {p d : Value} {w1 w2 : World} {j : Nat} (h : kpG Y BP p d n1 n2 j w1) (hg : Gr w1 w2) : kpG Y BP p d n1 n2 j w2 := by
  unfold kpG at h ⊢
  split
  · obtain ⟨l, h⟩ := h; exact ⟨l, ownsRow_gr h hg⟩
  · obtain ⟨l, h⟩ := h; exact ⟨l, ownsRow_gr h hg⟩
  · exact hg.cellAt h
  · exact hg.cellAt h
  · trivial
theorem kpG.grownP {Y BP n1 n2 : Nat} {p d : Value} {w1 w2 : World} {j : Nat} {xs : List Value} (h : kpG Y BP p d n1 n2 j w1) (hj : j ≠ 3) (hp : w1.ownsRow BP 3 1 p n1 xs) (hv : ∀ g, p.ownBlock = some g → g < Y) (hg : w1.grownBy w2 p.ownBlock) : kpG Y BP p d n1 n2 j w2 := by
  unfold kpG at h ⊢
  split
  · exact absurd rfl hj
  · obtain ⟨l, h⟩ := h; exact ⟨l, grown_own hg (fun g hk e => own_apart hp h (by decide) e.symm hk) h⟩
  · exact grown_cell hg (fun e => by have := hv Y e.symm; omega) h
  · exact grown_cell hg (fun e => by have := hv Y e.symm; omega) h
  · trivial
theorem kpG.grownD {Y BP n1 n2 : Nat} {p d : Value} {w1 w2 : World} {j : Nat} {xs : List Value} (h : kpG Y BP p d n1 n2 j w1) (hj : j ≠ 7) (hp : w1.ownsRow BP 5 1 d n2 xs) (hv : ∀ g, d.ownBlock = some g → g < Y) (hg : w1.grownBy w2 d.ownBlock) : kpG Y BP p d n1 n2 j w2 := by
  unfold kpG at h ⊢
  split
  · obtain ⟨l, h⟩ := h; exact ⟨l, grown_own hg (fun g hk e => own_apart hp h (by decide) e.symm hk) h⟩
  · exact absurd rfl hj
  · exact grown_cell hg (fun e => by have := hv Y e.symm; omega) h
  · exact grown_cell hg (fun e => by have := hv Y e.symm; omega) h
  · trivial
theorem kpG.set {Y BP n1 n2 o : Nat} {p d u : Value} {w1 : World} {j : Nat} (h : kpG Y BP p d n1 n2 j w1) (h9 : j = 9 → o ≠ 3) (h11 : j = 11 → o ≠ 5) (hp : ∀ g, p.ownBlock = some g → g < Y) (hd : ∀ g, d.ownBlock = some g → g < Y) : kpG Y BP p d n1 n2 j (w1.setCell ⟨Y, o, none⟩ u) := by
  unfold kpG at h ⊢
  split
  · obtain ⟨l, h⟩ := h; exact ⟨l, ownsRow_setCell_other h (fun e => by have := hp _ e; simp at this) u⟩
  · obtain ⟨l, h⟩ := h; exact ⟨l, ownsRow_setCell_other h (fun e => by have := hd _ e; simp at this) u⟩
  · exact cell_off h (h9 rfl)
  · exact cell_off h (h11 rfl)
  · trivial
def kqA (k c m r : Int) (a1 : Option Addr) (n1 d1 : Nat) (s : ByteArray) (b1 : Option Addr) (o1 e1 : Nat) (xa : Option Addr) (xn xc : Nat) (X : ByteArray) (L : List Int) : Nat → Value → World → Prop
  | 0, v, _ => v = .agg #[.int .i64 k, .int .u8 c, .int .u8 m, .slice a1 n1 d1, .string s, .slice b1 o1 e1]
  | 1, v, _ => v = .int .i64 0
  | 2, v, _ => v = .bool true
  | 3, v, _ => v = .bool true
  | 4, v, _ => v = .slice xa xn xc
  | 5, v, _ => v = .string X
  | 6, v, _ => v = .agg #[.int .i64 k, .int .u8 c, .int .u8 m, .slice a1 n1 d1, .string s, .slice b1 o1 e1]
  | 7, v, w' => ∃ va n vc, v = .slice va n vc ∧ HasRow w' 5 (.slice va n vc) n (bcells L)
  | 8, v, _ => v = .string X
  | 9, v, _ => v = .bool false
  | 10, v, _ => v = .bool false
  | _, _, _ => True
theorem kqA.gr {k c m r : Int} {a1 : Option Addr} {n1 d1 : Nat} {s : ByteArray} {b1 : Option Addr} {o1 e1 : Nat} {xa : Option Addr} {xn xc : Nat} {X : ByteArray} {L : List Int} {w1 w2 : World} {j : Nat} {u : Value} (h : kqA k c m r a1 n1 d1 s b1 o1 e1 xa xn xc X L j u w1) (hg : Gr w1 w2) : kqA k c m r a1 n1 d1 s b1 o1 e1 xa xn xc X L j u w2 := by
  unfold kqA at h ⊢
  split <;> first | exact h | skip
  · obtain ⟨va, n, vc, e, h⟩ := h; exact ⟨va, n, vc, e, h.gr hg⟩
  all_goals trivial
def kqB (k c m r : Int) (a1 : Option Addr) (n1 d1 : Nat) (s : ByteArray) (b1 : Option Addr) (o1 e1 : Nat) (xa : Option Addr) (xn xc : Nat) (X : ByteArray) (L : List Int) : Nat → Value → World → Prop
  | 0, v, _ => v = .agg #[.int .i64 k, .int .u8 c, .int .u8 m, .slice a1 n1 d1, .string s, .slice b1 o1 e1]
  | 1, v, _ => v = .int .i64 r
  | 2, v, _ => v = .bool false
  | 3, v, _ => v = .bool false
  | 4, _, _ => True
  | 5, _, _ => True
  | 6, _, _ => True
  | 7, _, _ => True
  | 8, _, _ => True
  | 9, _, _ => True
  | 10, v, _ => v = .bool false
  | _, _, _ => True
theorem kqB.gr {k c m r : Int} {a1 : Option Addr} {n1 d1 : Nat} {s : ByteArray} {b1 : Option Addr} {o1 e1 : Nat} {xa : Option Addr} {xn xc : Nat} {X : ByteArray} {L : List Int} {w1 w2 : World} {j : Nat} {u : Value} (h : kqB k c m r a1 n1 d1 s b1 o1 e1 xa xn xc X L j u w1) (hg : Gr w1 w2) : kqB k c m r a1 n1 d1 s b1 o1 e1 xa xn xc X L j u w2 := by
  unfold kqB at h ⊢
  split <;> first | exact h | skip
  all_goals trivial
def kqC (T : Tok) (k c m : Int) (a1 : Option Addr) (n1 d1 : Nat) (s : ByteArray) (b1 : Option Addr) (o1 e1 : Nat) (pa : Option Addr) (pc : Nat) (da : Option Addr) (dc : Nat) : Nat → Value → World → Prop
  | 0, v, _ => v = .agg #[.int .i64 k, .int .u8 c, .int .u8 m, .slice pa n1 pc, .string s, .slice da o1 dc]
  | 1, v, _ => v = .agg #[.int .i64 k, .int .u8 c, .int .u8 m, .slice pa n1 pc, .string s, .slice da o1 dc]
  | 2, v, _ => v = .agg #[.int .i64 k, .int .u8 c, .int .u8 m, .slice a1 n1 d1, .string s, .slice b1 o1 e1]
  | 3, v, _ => v = .bool true
  | 4, v, _ => v = .bool true
  | 5, v, _ => v = .agg #[.int .i64 k, .int .u8 c, .int .u8 m, .slice pa n1 pc, .string s, .slice da o1 dc]
  | 6, v, _ => v = .agg #[.int .i64 k, .int .u8 c, .int .u8 m, .slice pa n1 pc, .string s, .slice da o1 dc]
  | 7, v, w' => ∃ va ca vb cb, v = .agg #[.int .i64 k, .int .u8 c, .int .u8 m, .slice va n1 ca, .string s, .slice vb o1 cb] ∧ RTok w' T (.slice va n1 ca, .slice vb o1 cb)
  | 8, v, _ => v = .bool true
  | 9, v, _ => v = .bool true
  | 10, v, _ => v = .bool true
  | _, _, _ => True
theorem kqC.gr {T : Tok} {k c m : Int} {a1 : Option Addr} {n1 d1 : Nat} {s : ByteArray} {b1 : Option Addr} {o1 e1 : Nat} {pa : Option Addr} {pc : Nat} {da : Option Addr} {dc : Nat} {w1 w2 : World} {j : Nat} {u : Value} (h : kqC T k c m a1 n1 d1 s b1 o1 e1 pa pc da dc j u w1) (hg : Gr w1 w2) : kqC T k c m a1 n1 d1 s b1 o1 e1 pa pc da dc j u w2 := by
  unfold kqC at h ⊢
  split <;> first | exact h | skip
  · obtain ⟨va, ca, vb, cb, e, h⟩ := h; exact ⟨va, ca, vb, cb, e, h.gr hg⟩
  all_goals trivial
end Go.Proofs.YtgbmjlajheeciaaDoor
