/-
  The law that acts do in both texts the same, walked.
-/
import Derived.Test.YtomflpkokcldeaaIsP
import Derived.Test.YtomflpkokcldeaaIsI
import Derived.Test.YtomflpkokcldeaaSs
import Derived.Test.YtomflpkokcldeaaOrd4
namespace Go.Proofs.Ytomflpkokcldeaa
set_option linter.unusedSimpArgs false
set_option linter.unusedVariables false
open Go.RowKit
set_option linter.unusedVariables false

/-- What is told of an act's fields. -/
def actF : Nat → Value → Prop
  | 0, v => ∃ z, v = .int .i64 z ∧ (Lit.int .i64 z).wf = true
  | 1, v => ∃ z, v = .int .i64 z ∧ (Lit.int .i64 z).wf = true
  | 2, v => ∃ b, v = .bool b
  | 3, v => ∃ s : ByteArray, v = .string s ∧ s.size ≤ maxLen
  | 4, v => ∃ z, v = .int .u8 z ∧ (Lit.int .u8 z).wf = true
  | _, _ => True
theorem act_at {w : World} {a : Option Addr} {len k : Nat} (h : IsStructs w a len 5 actF) (hk : k < len) : ∃ (b off : Nat) (kd n : Int) (wide : Bool) (id : ByteArray) (cd : Int), a = some ⟨b, off, none⟩ ∧ b < w.heap.size ∧ 0 ≤ cd ∧ cd < 256 ∧
    w.cell? ⟨b, off + k * 5, none⟩ = some (.int .i64 kd) ∧ w.cell? ⟨b, off + k * 5 + 1, none⟩ = some (.int .i64 n) ∧ w.cell? ⟨b, off + k * 5 + 2, none⟩ = some (.bool wide) ∧ w.cell? ⟨b, off + k * 5 + 3, none⟩ = some (.string id) ∧ w.cell? ⟨b, off + k * 5 + 4, none⟩ = some (.int .u8 cd) := by
  rcases h.2 with h0 | ⟨b, off, ha, hb, hc⟩
  · omega
  · obtain ⟨v0, c0, kd, rfl, _⟩ := hc k 0 hk (by omega)
    obtain ⟨v1, c1, n, rfl, _⟩ := hc k 1 hk (by omega)
    obtain ⟨v2, c2, wide, rfl⟩ := hc k 2 hk (by omega)
    obtain ⟨v3, c3, id, rfl, _⟩ := hc k 3 hk (by omega)
    obtain ⟨v4, c4, cd, rfl, hw⟩ := hc k 4 hk (by omega)
    have := bounds_u8 hw
    exact ⟨b, off, kd, n, wide, id, cd, ha, hb, by omega, by omega, by simpa using c0, by simpa [Nat.add_assoc] using c1, by simpa [Nat.add_assoc] using c2, by simpa [Nat.add_assoc] using c3, by simpa [Nat.add_assoc] using c4⟩
def S7.new : S7 := ⟨1, 1, 4, 4, 0, 2, 0⟩

/-! ### The two states at the beginning -/
def begF (X : S7) : Nat → Value → World → Prop
  | 0, v, _ => v = .agg #[.int .i64 X.a0, .int .i64 X.a1, .int .i64 X.a2, .int .i64 X.a3, .int .i64 X.a4, .int .i64 X.a5, .int .i64 X.a6]
  | 1, v, _ => v = .agg #[.int .i64 1, .int .i64 1, .int .i64 4, .int .i64 4, .int .i64 0, .int .i64 2, .int .i64 0]
  | 2, v, w => ∃ g, v = .slice (some ⟨g, 0, none⟩) 2 2 ∧ w.heap[g]? = some (.cells #[.int .i64 X.a0, .int .i64 X.a1, .int .i64 X.a2, .int .i64 X.a3, .int .i64 X.a4, .int .i64 X.a5, .int .i64 X.a6, .int .i64 1, .int .i64 1, .int .i64 4, .int .i64 4, .int .i64 0, .int .i64 2, .int .i64 0] 24 (0, 0))
  | 3, v, _ => v = .int .i64 2
  | 4, v, _ => v = .int .i64 0
  | _, _, _ => True
theorem begF.gr {X : S7} {j : Nat} {u : Value} {w w' : World} (h : begF X j u w) (hg : Gr w w') : begF X j u w' := by
  match j, h with
  | 0, h | 1, h | 3, h | 4, h => exact h
  | 2, h => obtain ⟨g, h1, h2⟩ := h; exact ⟨g, h1, hg.blk h2⟩
  | _ + 5, _ => exact trivial

/-- An act done: what the operations leave. -/
def plF (p q b off len cap k : Nat) (kd n : Int) (wide : Bool) (id : ByteArray) (cd : Int) (Z : S7) : Nat → Value → World → Prop
  | 0, v, _ => v = .agg #[.int .i64 Z.a0, .int .i64 Z.a1, .int .i64 Z.a2, .int .i64 Z.a3, .int .i64 Z.a4, .int .i64 Z.a5, .int .i64 Z.a6]
  | 1, v, _ => v = .agg #[.int .i64 Z.a0, .int .i64 Z.a1, .int .i64 Z.a2, .int .i64 Z.a3, .int .i64 Z.a4, .int .i64 Z.a5, .int .i64 Z.a6]
  | 2, v, _ => v = .slice (some ⟨b, off, none⟩) len cap
  | 3, v, _ => v = .int .i64 k
  | 4, v, _ => v = .pointer (some ⟨b, off + k * 5, none⟩)
  | 5, v, _ => v = .agg #[.int .i64 kd, .int .i64 n, .bool wide, .string id, .int .u8 cd]
  | 6, v, _ => v = .tuple #[.agg #[.int .i64 (doS kd n wide id cd Z).a0, .int .i64 (doS kd n wide id cd Z).a1, .int .i64 (doS kd n wide id cd Z).a2, .int .i64 (doS kd n wide id cd Z).a3, .int .i64 (doS kd n wide id cd Z).a4, .int .i64 (doS kd n wide id cd Z).a5, .int .i64 (doS kd n wide id cd Z).a6], .agg #[.int .i64 (doS kd n wide id cd Z).a0, .int .i64 (doS kd n wide id cd Z).a1, .int .i64 (doS kd n wide id cd Z).a2, .int .i64 (doS kd n wide id cd Z).a3, .int .i64 (doS kd n wide id cd Z).a4, .int .i64 (doS kd n wide id cd Z).a5, .int .i64 (doS kd n wide id cd Z).a6], .bool true]
  | 7, v, _ => v = .tuple #[.agg #[.int .i64 (doS kd n wide id cd Z).a0, .int .i64 (doS kd n wide id cd Z).a1, .int .i64 (doS kd n wide id cd Z).a2, .int .i64 (doS kd n wide id cd Z).a3, .int .i64 (doS kd n wide id cd Z).a4, .int .i64 (doS kd n wide id cd Z).a5, .int .i64 (doS kd n wide id cd Z).a6], .agg #[.int .i64 (doS kd n wide id cd Z).a0, .int .i64 (doS kd n wide id cd Z).a1, .int .i64 (doS kd n wide id cd Z).a2, .int .i64 (doS kd n wide id cd Z).a3, .int .i64 (doS kd n wide id cd Z).a4, .int .i64 (doS kd n wide id cd Z).a5, .int .i64 (doS kd n wide id cd Z).a6], .bool true]
  | 8, v, _ => v = .agg #[.int .i64 (doS kd n wide id cd Z).a0, .int .i64 (doS kd n wide id cd Z).a1, .int .i64 (doS kd n wide id cd Z).a2, .int .i64 (doS kd n wide id cd Z).a3, .int .i64 (doS kd n wide id cd Z).a4, .int .i64 (doS kd n wide id cd Z).a5, .int .i64 (doS kd n wide id cd Z).a6]
  | 9, v, _ => v = .agg #[.int .i64 (doS kd n wide id cd Z).a0, .int .i64 (doS kd n wide id cd Z).a1, .int .i64 (doS kd n wide id cd Z).a2, .int .i64 (doS kd n wide id cd Z).a3, .int .i64 (doS kd n wide id cd Z).a4, .int .i64 (doS kd n wide id cd Z).a5, .int .i64 (doS kd n wide id cd Z).a6]
  | 10, v, _ => v = .bool true
  | 11, _, w => w.heap[p]? = some (.cells #[.int .i64 (doS kd n wide id cd Z).a0, .int .i64 (doS kd n wide id cd Z).a1, .int .i64 (doS kd n wide id cd Z).a2, .int .i64 (doS kd n wide id cd Z).a3, .int .i64 (doS kd n wide id cd Z).a4, .int .i64 (doS kd n wide id cd Z).a5, .int .i64 (doS kd n wide id cd Z).a6] 27 (0, 0))
  | 12, _, w => w.heap[q]? = some (.cells #[.int .i64 (doS kd n wide id cd Z).a0, .int .i64 (doS kd n wide id cd Z).a1, .int .i64 (doS kd n wide id cd Z).a2, .int .i64 (doS kd n wide id cd Z).a3, .int .i64 (doS kd n wide id cd Z).a4, .int .i64 (doS kd n wide id cd Z).a5, .int .i64 (doS kd n wide id cd Z).a6] 24 (0, 0))
  | 13, v, _ => v = .bool true
  | _, _, _ => True
theorem plF.keep {p q b off len cap k : Nat} {kd n : Int} {wide : Bool} {id : ByteArray} {cd : Int} {Z : S7} {j : Nat} {u : Value} {w w' : World} (h : plF p q b off len cap k kd n wide id cd Z j u w) (hp : j = 11 → w'.heap[p]? = w.heap[p]?) (hq : j = 12 → w'.heap[q]? = w.heap[q]?) : plF p q b off len cap k kd n wide id cd Z j u w' := by
  match j, h with
  | 0, h | 1, h | 2, h | 3, h | 4, h | 5, h | 6, h | 7, h | 8, h | 9, h | 10, h | 13, h => exact h
  | 11, h => exact (hp rfl).trans h
  | 12, h => exact (hq rfl).trans h
  | _ + 14, _ => exact trivial
theorem plF.gr {p q b off len cap k : Nat} {kd n : Int} {wide : Bool} {id : ByteArray} {cd : Int} {Z : S7} {j : Nat} {u : Value} {w w' : World} (h : plF p q b off len cap k kd n wide id cd Z j u w) (hg : Gr w w') : plF p q b off len cap k kd n wide id cd Z j u w' := by
  match j, h with
  | 0, h | 1, h | 2, h | 3, h | 4, h | 5, h | 6, h | 7, h | 8, h | 9, h | 10, h | 13, h => exact h
  | 11, h | 12, h => exact hg.blk h
  | _ + 14, _ => exact trivial
/-- As long as the loads are not done the blocks hold the states. -/
def plG (p q : Nat) (Z : S7) : Nat → World → Prop
  | 0, w => w.heap[p]? = some (.cells #[.int .i64 Z.a0, .int .i64 Z.a1, .int .i64 Z.a2, .int .i64 Z.a3, .int .i64 Z.a4, .int .i64 Z.a5, .int .i64 Z.a6] 27 (0, 0))
  | 1, w => w.heap[q]? = some (.cells #[.int .i64 Z.a0, .int .i64 Z.a1, .int .i64 Z.a2, .int .i64 Z.a3, .int .i64 Z.a4, .int .i64 Z.a5, .int .i64 Z.a6] 24 (0, 0))
  | _, _ => True
def plAnc : Nat → List Nat
  | 6 | 7 | 8 | 9 | 10 | 11 | 12 => [0, 1]
  | _ => []
theorem plG.gr {p q : Nat} {Z : S7} {j : Nat} {w w' : World} (h : plG p q Z j w) (hg : Gr w w') : plG p q Z j w' := by
  match j, h with
  | 0, h | 1, h => exact hg.blk h
  | _ + 2, _ => exact trivial
theorem plG.off {p q : Nat} {Z : S7} {j : Nat} {w' : World} (h : ([0, 1] : List Nat).contains j = false) : plG p q Z j w' := by
  match j, h with
  | 0, h | 1, h => exact absurd h (by decide)
  | _ + 2, _ => exact trivial
theorem wpList_store_seven {P : Program} {ops : Array Oper} {rest : List Oper} {o : Oper} {a : Act} {w : World} {Q : Exit → Act → World → Prop}
    (hgd : o.guard = none) (ty : TypeId) (x y : Operand) (ho : o.op = .store ty x y) (g : Nat) (cells : Array Value)
    (hx : a.eval x = .pointer (some ⟨g, 0, none⟩)) (hy : a.eval y = .agg cells) (t : TypeId) (old : Array Value) (hg : w.heap[g]? = some (.cells old t (0, 0)))
    (hi : (P.info? ty).map (·.size) = some cells.size) (hold : old.size = cells.size) (h1 : cells.all (·.oneCell') = true)
    (h : ∀ w', w'.heap[g]? = some (.cells cells t (0, 0)) → Upd [g] w w' → wpList P ops Q rest (a.put o.dst undef) w') : wpList P ops Q (o :: rest) a w :=
  wpList_plain hgd fun _ hK => wp_store_row ty x y ho g cells hx hy t old hg hi hold h1
    (hK _ _ (h _ (setRow_heap w g old cells t _ hg) setRow_upd))
theorem stEq_new {Y : S7} : stEq Y.a0 Y.a1 Y.a2 Y.a3 Y.a4 Y.a5 Y.a6 1 1 4 4 0 2 0 = true ↔ Y = S7.new := by
  obtain ⟨a0, a1, a2, a3, a4, a5, a6⟩ := Y
  simp only [stEq, S7.new, Bool.and_eq_true, beq_iff_eq, S7.mk.injEq]
  constructor
  · rintro ⟨⟨h0, h1, h2, h3⟩, h4, h5, h6⟩; exact ⟨h0, h1, h2, h3, h4, h5, h6⟩
  · rintro ⟨h0, h1, h2, h3, h4, h5, h6⟩; exact ⟨⟨h0, h1, h2, h3⟩, h4, h5, h6⟩
theorem S7.eta_cells (Y : S7) : Y.cells = #[.int .i64 Y.a0, .int .i64 Y.a1, .int .i64 Y.a2, .int .i64 Y.a3, .int .i64 Y.a4, .int .i64 Y.a5, .int .i64 Y.a6] := rfl
theorem cells14 {w : World} {g : Nat} {t : TypeId} {v0 v1 v2 v3 v4 v5 v6 v7 v8 v9 va vb vc vd : Value} (h : w.heap[g]? = some (.cells #[v0, v1, v2, v3, v4, v5, v6, v7, v8, v9, va, vb, vc, vd] t (0, 0))) (i : Nat) (v : Value) (hv : #[v0, v1, v2, v3, v4, v5, v6, v7, v8, v9, va, vb, vc, vd][i]? = some v) : w.cell? ⟨g, i, none⟩ = some v := cell_of_row h i v hv
set_option maxRecDepth 100000 in
set_option maxHeartbeats 4000000 in
theorem plays_walk (X : S7) (a : Option Addr) (len cap : Nat) (w : World) (hacts : IsStructs w a len 5 actF) :
    Calls Try.prog 5 #[.agg X.cells, .slice a len cap] w fun e w' => e = .returned (.bool true) ∧ Gr w w' := by
  unfold S7.cells
  have hlen := hacts.1
  unfold maxLen at hlen
  have hb0 := heap_alloc_new w (.cells #[.int .i64 X.a0, .int .i64 X.a1, .int .i64 X.a2, .int .i64 X.a3, .int .i64 X.a4, .int .i64 X.a5, .int .i64 X.a6] 24)
  have HX := Lib.hid hacts
  clear hacts
  go_enter Try.func5, Try.ntmps5
  go_wp2_with fail
  refine (awake10 _).mono ?_
  rintro e w1 ⟨rfl, hb1⟩
  obtain ⟨hc1, hf1, hz1⟩ := hb1.facts
  try simp at hz1
  try have : w.heap.size < w1.heap.size := by omega
  have hx1 := hb1.blk hb0
  have hgw1 : Gr w w1 := ((Gr.refl w).alloc _).trans hb1
  clear hb1 hc1 hf1 hz1 this hb0
  go_wp2_with fail
  refine wp_region_facts3 (begF X) (Gr w1) (by kernel_rfl) (by kernel_rfl) (by kernel_rfl) ((Gr.refl _).drew) ?_ ?_
  · refine Steps.cons1 1 rfl rfl ?_ (Steps.cons1 2 rfl rfl ?_ (Steps.cons1 3 rfl rfl ?_ (Steps.cons1 4 rfl rfl ?_ (Steps.cons1 5 rfl rfl ?_ (Steps.nil)))))
    · (intro ys w' hB hP; simp only [Preds, Region.binds, begF, forall_const, and_true, true_and] at hP)
      have q := cells7 (hB.blk hx1)
      intro K hK
      simp only [fillA]
      go_simp
      have h2 := hK _ w' hB rfl (fun j u _ h => h)
      simp [fillA, Act.put, hP] at h2
      exact h2
    · (intro ys w' hB hP; simp only [Preds, Region.binds, begF, forall_const, and_true, true_and] at hP)
      intro K hK
      simp only [fillA]
      go_simp
      refine (rnew_any _).mono ?_
      rintro e w4 ⟨rfl, hg⟩
      have h2 := hK _ w4 (hB.trans hg) rfl (fun j u _ h => h.gr hg)
      simp [fillA, Act.put, hP] at h2
      exact h2
    · (intro ys w' hB hP; simp only [Preds, Region.binds, begF, forall_const, and_true, true_and] at hP)
      intro K hK
      simp only [fillA]
      go_simp
      have h2 := hK (.slice (some ⟨w'.heap.size, 0, none⟩) 2 2) (w'.alloc (.cells #[.int .i64 X.a0, .int .i64 X.a1, .int .i64 X.a2, .int .i64 X.a3, .int .i64 X.a4, .int .i64 X.a5, .int .i64 X.a6, .int .i64 1, .int .i64 1, .int .i64 4, .int .i64 4, .int .i64 0, .int .i64 2, .int .i64 0] 24)) (hB.alloc _) ⟨_, rfl, heap_alloc_new _ _⟩ (fun j u _ h => h.gr ((Gr.refl _).alloc _))
      simp [fillA, Act.put, hP] at h2
      exact h2
    · (intro ys w' hB hP; simp only [Preds, Region.binds, begF, forall_const, and_true, true_and] at hP)
      obtain ⟨g, h7, h8⟩ : ∃ g, ys 2 = .slice (some ⟨g, 0, none⟩) 2 2 ∧ w'.heap[g]? = some (.cells #[.int .i64 X.a0, .int .i64 X.a1, .int .i64 X.a2, .int .i64 X.a3, .int .i64 X.a4, .int .i64 X.a5, .int .i64 X.a6, .int .i64 1, .int .i64 1, .int .i64 4, .int .i64 4, .int .i64 0, .int .i64 2, .int .i64 0] 24 (0, 0)) := by simpa using hP
      intro K hK
      simp only [fillA]
      go_simp
      have h2 := hK _ w' hB rfl (fun j u _ h => h)
      simp [fillA, Act.put, h7] at h2
      exact h2
    · (intro ys w' hB hP K hK; simp only [Preds, Region.binds, begF, forall_const, and_true, true_and] at hP; simp only [fillA]; go_simp; (have h2 := fun v => hK v w' hB); simp only [begF, forall_eq] at h2; (have h2 := h2 (fun _ _ _ h => h)); simp [fillA, Act.put, hP] at h2; exact h2)
  · intro ys w3 hB hF
    have f0 : ys 0 = _ := hF 0 (by decide)
    have f1 : ys 1 = _ := hF 1 (by decide)
    obtain ⟨g, f2, hgb⟩ := hF 2 (by decide)
    have f3 : ys 3 = _ := hF 3 (by decide)
    have f4 : ys 4 = _ := hF 4 (by decide)
    simp only [fillA, f0, f1, f2, f3, f4, Act.put, Nat.zero_add, List.setIfInBounds_toArray, List.set_cons_zero, List.set_cons_succ]
    clear hF f0 f1 f2 f3 f4
    have hgw3 : Gr w w3 := hgw1.trans hB
    clear hB hx1 hgw1
    go_wp2_with fail
    go_loopw [16] (fun i wr => ∃ j : Nat, j ≤ 2 ∧ i = .int .i64 j ∧ Gr w3 wr) (fun i _ => 2 - (intOf i).toNat)
    case atStart => exact ⟨0, by omega, rfl, Gr.refl _⟩
    case round =>
      obtain ⟨j, hj, rfl, hgr⟩ := hrel
      by_cases hj2 : j < 2
      · obtain ⟨Y, hYc⟩ : ∃ Y : S7, wr.cell? ⟨g, j * 7, none⟩ = some (.int .i64 Y.a0) ∧ wr.cell? ⟨g, j * 7 + 1, none⟩ = some (.int .i64 Y.a1) ∧ wr.cell? ⟨g, j * 7 + 2, none⟩ = some (.int .i64 Y.a2) ∧ wr.cell? ⟨g, j * 7 + 3, none⟩ = some (.int .i64 Y.a3) ∧ wr.cell? ⟨g, j * 7 + 4, none⟩ = some (.int .i64 Y.a4) ∧ wr.cell? ⟨g, j * 7 + 5, none⟩ = some (.int .i64 Y.a5) ∧ wr.cell? ⟨g, j * 7 + 6, none⟩ = some (.int .i64 Y.a6) := by
          have hbg := hgr.blk hgb
          rcases (by omega : j = 0 ∨ j = 1) with rfl | rfl
          · exact ⟨X, cells14 hbg 0 _ rfl, cells14 hbg 1 _ rfl, cells14 hbg 2 _ rfl, cells14 hbg 3 _ rfl, cells14 hbg 4 _ rfl, cells14 hbg 5 _ rfl, cells14 hbg 6 _ rfl⟩
          · exact ⟨S7.new, cells14 hbg 7 _ rfl, cells14 hbg 8 _ rfl, cells14 hbg 9 _ rfl, cells14 hbg 10 _ rfl, cells14 hbg 11 _ rfl, cells14 hbg 12 _ rfl, cells14 hbg 13 _ rfl⟩
        obtain ⟨y0, y1, y2, y3, y4, y5, y6⟩ := hYc
        have hjn : (j : Int) < 2 := by omega
        have hgw4 : Gr w wr := hgw3.trans hgr
        clear hgb
        go_wp2_with (go_at_call 8; refine (own10_any _ _ _ _ _ _ _ _).mono ?_; rintro e w5 ⟨rfl, hg5⟩)
        have h6a := hg5.blk (heap_alloc_new wr (.cells #[.int .i64 Y.a0, .int .i64 Y.a1, .int .i64 Y.a2, .int .i64 Y.a3, .int .i64 Y.a4, .int .i64 Y.a5, .int .i64 Y.a6] 24))
        obtain ⟨wA, hwA⟩ : ∃ wA, wA = w5.alloc (.cells #[.int .i64 Y.a0, .int .i64 Y.a1, .int .i64 Y.a2, .int .i64 Y.a3, .int .i64 Y.a4, .int .i64 Y.a5, .int .i64 Y.a6] 27) := ⟨_, rfl⟩
        have h7 : wA.heap[w5.heap.size]? = some (.cells #[.int .i64 Y.a0, .int .i64 Y.a1, .int .i64 Y.a2, .int .i64 Y.a3, .int .i64 Y.a4, .int .i64 Y.a5, .int .i64 Y.a6] 27 (0, 0)) := by rw [hwA]; exact heap_alloc_new _ _
        have hg5A : Gr w5 wA := by rw [hwA]; exact (Gr.refl _).alloc _
        have h6 := hg5A.blk h6a
        have hgA : Gr wr wA := ((Gr.refl wr).alloc _).trans (hg5.trans hg5A)
        have hsz5 := hg5.size
        simp at hsz5
        rw [← hwA]
        clear hwA
        obtain ⟨b6, hb6⟩ : ∃ b, b = wr.heap.size := ⟨_, rfl⟩
        obtain ⟨b7, hb7⟩ : ∃ b, b = w5.heap.size := ⟨_, rfl⟩
        have hbw := hgw3.size
        have hbr := hgr.size
        have hb6l : wr.heap.size ≤ b6 := by omega
        have hb7l : wr.heap.size ≤ b7 := by omega
        rw [← hb6] at h6 hsz5 hbr ⊢
        rw [← hb7] at h7 hsz5 ⊢
        have hne : b7 ≠ b6 := by omega
        clear hb6 hb7 h6a hg5 hg5A y0 y1 y2 y3 y4 y5 y6
        have hS := fun (w9 : World) (hg : Gr wA w9) => Seven.of h6 hg
        unfold Seven at hS
        have hst := fun a0 a1 a2 a3 a4 a5 a6 b0 b1 b2 b3 b4 b5 b6 w => eq_st 24 (.inr rfl) a0 a1 a2 a3 a4 a5 a6 b0 b1 b2 b3 b4 b5 b6 w
        have hbase : BaseP wA b7 b6 wA := ⟨⟨rfl, rfl, rfl, Nat.le_refl _, fun _ _ _ => rfl⟩, ⟨_, rfl, h7⟩, _, rfl, h6⟩
        have hnew := @stEq_new Y
        rcases hsy : stEq Y.a0 Y.a1 Y.a2 Y.a3 Y.a4 Y.a5 Y.a6 1 1 4 4 0 2 0 with _ | _
        · clear hnew
          go_region_held3 (fun w9 => Gr wA w9 ∧ w9.cell? ⟨b6, 0, none⟩ = some (.int .i64 Y.a0) ∧ w9.cell? ⟨b6, 1, none⟩ = some (.int .i64 Y.a1) ∧ w9.cell? ⟨b6, 2, none⟩ = some (.int .i64 Y.a2) ∧ w9.cell? ⟨b6, 3, none⟩ = some (.int .i64 Y.a3) ∧ w9.cell? ⟨b6, 4, none⟩ = some (.int .i64 Y.a4) ∧ w9.cell? ⟨b6, 5, none⟩ = some (.int .i64 Y.a5) ∧ w9.cell? ⟨b6, 6, none⟩ = some (.int .i64 Y.a6))
            ((refine (fun hg => ⟨hg, hS _ hg⟩) ?_; (repeat (first | with_reducible exact Gr.refl _ | with_reducible assumption | with_reducible refine Gr.setCell ?_ (by simp; try omega) _ | with_reducible refine Gr.alloc ?_ _ | with_reducible refine Gr.drew ?_ | with_reducible refine Gr.drewN ?_ _ | with_reducible refine Gr.trans ?_ (by assumption)))))
            (first | (go_at_call 16; refine (rnew_any _).mono ?_; rintro e w8 ⟨rfl, hg8⟩))
          go_wp2_with fail
          have hgA8 : Gr wA w8 := ⟨hg8.os, hg8.tape, hg8.output, hg8.size, hg8.block⟩
          have h7W := hgA8.blk h7
          have h6W := hgA8.blk h6
          have hPW : BaseP w8 b7 b6 w8 := ⟨⟨rfl, rfl, rfl, Nat.le_refl _, fun _ _ _ => rfl⟩, ⟨_, rfl, h7W⟩, _, rfl, h6W⟩
          have hgW : Gr wr w8 := hgA.trans hgA8
          clear h7 h6 hbase hgA hgA8 hg8 hS hsy
          go_loopw [8] (fun i wq => ∃ (k : Nat) (Z : S7), k ≤ len ∧ k ≤ 30 ∧ i = .int .i64 k ∧ wq.heap[b7]? = some (.cells #[.int .i64 Z.a0, .int .i64 Z.a1, .int .i64 Z.a2, .int .i64 Z.a3, .int .i64 Z.a4, .int .i64 Z.a5, .int .i64 Z.a6] 27 (0, 0)) ∧ wq.heap[b6]? = some (.cells #[.int .i64 Z.a0, .int .i64 Z.a1, .int .i64 Z.a2, .int .i64 Z.a3, .int .i64 Z.a4, .int .i64 Z.a5, .int .i64 Z.a6] 24 (0, 0)) ∧ BaseP w8 b7 b6 wq) (fun i _ => 30 - (intOf i).toNat)
          case atStart => exact ⟨0, Y, by omega, by omega, rfl, h7W, h6W, hPW⟩
          case round =>
            obtain ⟨k, Z, hkl, hk3, rfl, hz7, hz6, hP⟩ := hrel
            clear h7W h6W hPW
            have hgq := hP.fin hgW hb7l hb6l
            have hwq := hgw4.trans hgq
            by_cases hk : k < len
            · have hkn : (k : Int) < (len : Int) := by omega
              by_cases hk30 : k < 30
              · have hk30n : (k : Int) < 30 := by omega
                obtain ⟨b, off, kd, n, wide, id, cd, rfl, hbw0, hcd0, hcd1, c0, c1, c2, c3, c4⟩ := act_at HX.out hk
                have k0 : (0 : Int) ≤ (k : Int) := by omega
                go_wp2_with fail
                refine wp_region_facts4 (plF b7 b6 b off len cap k kd n wide id cd Z) (BaseP w8 b7 b6) (plG b7 b6 Z) plAnc (by kernel_rfl) (by kernel_rfl) (by kernel_rfl) (by kernel_rfl) (hP.gr ((Gr.refl _).drew)) ?_ ?_ ?_
                · intro i _
                  match i with
                  | 0 => exact hz7
                  | 1 => exact hz6
                  | _ + 2 => exact trivial
                · refine Steps4.cons1 1 rfl rfl ?_ (Steps4.cons1 2 rfl rfl ?_ (Steps4.cons1 3 rfl rfl ?_ (Steps4.cons1 4 rfl rfl ?_ (Steps4.cons1 5 rfl rfl ?_ (Steps4.cons1 6 rfl rfl ?_ (Steps4.cons1 7 rfl rfl ?_ (Steps4.cons1 8 rfl rfl ?_ (Steps4.cons1 9 rfl rfl ?_ (Steps4.cons1 10 rfl rfl ?_ (Steps4.cons1 11 rfl rfl ?_ (Steps4.cons1 12 rfl rfl ?_ (Steps4.cons1 13 rfl rfl ?_ (Steps4.cons1 14 rfl rfl ?_ (Steps4.nil))))))))))))))
                  · (intro ys w' hB hN hP; simp only [Preds, Region.binds, plF, forall_const, and_true, true_and] at hP)
                    have c7 := cells7 hN
                    intro K hK
                    simp only [fillA]
                    go_simp
                    have h2 := hK _ w' hB rfl (fun j u _ h => h) (fun _ _ h => h)
                    simp [fillA, Act.put, hP] at h2
                    exact h2
                  · (intro ys w' hB hN hP; simp only [Preds, Region.binds, plF, forall_const, and_true, true_and] at hP)
                    have c7 := cells7 hN
                    intro K hK
                    simp only [fillA]
                    go_simp
                    have h2 := hK _ w' hB rfl (fun j u _ h => h) (fun _ _ h => h)
                    simp [fillA, Act.put, hP] at h2
                    exact h2
                  · (intro ys w' hB hN hP K hK; simp only [Preds, Region.binds, plF, forall_const, and_true, true_and] at hP; simp only [fillA]; go_simp; (have h2 := fun v => hK v w' hB); simp only [plF, forall_eq] at h2; (have h2 := h2 (fun _ _ _ h => h) (fun _ _ h => h)); simp [fillA, Act.put, hP] at h2; exact h2)
                  · (intro ys w' hB hN hP K hK; simp only [Preds, Region.binds, plF, forall_const, and_true, true_and] at hP; simp only [fillA]; go_simp; (have h2 := fun v => hK v w' hB); simp only [plF, forall_eq] at h2; (have h2 := h2 (fun _ _ _ h => h) (fun _ _ h => h)); simp [fillA, Act.put, hP] at h2; exact h2)
                  · (intro ys w' hB hN hP K hK; simp only [Preds, Region.binds, plF, forall_const, and_true, true_and] at hP; simp only [fillA]; go_simp; (have h2 := fun v => hK v w' hB); simp only [plF, forall_eq] at h2; (have h2 := h2 (fun _ _ _ h => h) (fun _ _ h => h)); simp [fillA, Act.put, hP] at h2; exact h2)
                  · (intro ys w' hB hN hP; simp only [Preds, Region.binds, plF, forall_const, and_true, true_and] at hP)
                    have hgw' := hgw4.trans (hB.fin hgW hb7l hb6l)
                    have d0 := hgw'.cellAt c0
                    have d1 := hgw'.cellAt c1
                    have d2 := hgw'.cellAt c2
                    have d3 := hgw'.cellAt c3
                    have d4 := hgw'.cellAt c4
                    clear c0 c1 c2 c3 c4
                    intro K hK
                    simp only [fillA]
                    go_simp
                    have h2 := hK _ w' hB rfl (fun j u _ h => h) (fun _ _ h => h)
                    simp [fillA, Act.put, hP] at h2
                    exact h2
                  · (intro ys w' hB hN hP; simp only [Preds, Region.binds, plF, forall_const, and_true, true_and] at hP)
                    intro K hK
                    simp only [fillA]
                    go_simp
                    refine (do_any Z kd n wide id cd _ ⟨hcd0, hcd1⟩).mono ?_
                    rintro e w4 ⟨rfl, hg⟩
                    have h2 := hK _ w4 (hB.gr hg) rfl (fun j u _ h => h.gr hg) (fun _ _ h => h.gr hg)
                    simp [fillA, Act.put, hP] at h2
                    exact h2
                  · (intro ys w' hB hN hP K hK; simp only [Preds, Region.binds, plF, forall_const, and_true, true_and] at hP; simp only [fillA]; go_simp; (have h2 := fun v => hK v w' hB); simp only [plF, forall_eq] at h2; (have h2 := h2 (fun _ _ _ h => h) (fun _ _ h => h)); simp [fillA, Act.put, hP] at h2; exact h2)
                  · (intro ys w' hB hN hP K hK; simp only [Preds, Region.binds, plF, forall_const, and_true, true_and] at hP; simp only [fillA]; go_simp; (have h2 := fun v => hK v w' hB); simp only [plF, forall_eq] at h2; (have h2 := h2 (fun _ _ _ h => h) (fun _ _ h => h)); simp [fillA, Act.put, hP] at h2; exact h2)
                  · (intro ys w' hB hN hP K hK; simp only [Preds, Region.binds, plF, forall_const, and_true, true_and] at hP; simp only [fillA]; go_simp; (have h2 := fun v => hK v w' hB); simp only [plF, forall_eq] at h2; (have h2 := h2 (fun _ _ _ h => h) (fun _ _ h => h)); simp [fillA, Act.put, hP] at h2; exact h2)
                  · (intro ys w' hB hN hP K hK; simp only [Preds, Region.binds, plF, forall_const, and_true, true_and] at hP; simp only [fillA]; go_simp; (have h2 := fun v => hK v w' hB); simp only [plF, forall_eq] at h2; (have h2 := h2 (fun _ _ _ h => h) (fun _ _ h => h)); simp [fillA, Act.put, hP] at h2; exact h2)
                  · (intro ys w' hB hN hP; simp only [Preds, Region.binds, plF, forall_const, and_true, true_and] at hP)
                    obtain ⟨cs, hcs, hblk⟩ := hB.2.1
                    have hv : ys 8 = .agg #[.int .i64 (doS kd n wide id cd Z).a0, .int .i64 (doS kd n wide id cd Z).a1, .int .i64 (doS kd n wide id cd Z).a2, .int .i64 (doS kd n wide id cd Z).a3, .int .i64 (doS kd n wide id cd Z).a4, .int .i64 (doS kd n wide id cd Z).a5, .int .i64 (doS kd n wide id cd Z).a6] := by simp [hP]
                    have hs := setRow_heap w' b7 cs #[.int .i64 (doS kd n wide id cd Z).a0, .int .i64 (doS kd n wide id cd Z).a1, .int .i64 (doS kd n wide id cd Z).a2, .int .i64 (doS kd n wide id cd Z).a3, .int .i64 (doS kd n wide id cd Z).a4, .int .i64 (doS kd n wide id cd Z).a5, .int .i64 (doS kd n wide id cd Z).a6] 27 (0, 0) hblk
                    have hB2 := hB.setp hne rfl hs setRow_upd
                    intro K hK
                    simp only [fillA]
                    with_reducible refine wp_store_row 27 (.tmp 7) (.tmp 44) ?ho11 b7 #[.int .i64 (doS kd n wide id cd Z).a0, .int .i64 (doS kd n wide id cd Z).a1, .int .i64 (doS kd n wide id cd Z).a2, .int .i64 (doS kd n wide id cd Z).a3, .int .i64 (doS kd n wide id cd Z).a4, .int .i64 (doS kd n wide id cd Z).a5, .int .i64 (doS kd n wide id cd Z).a6] ?hx11 ?hy11 27 cs hblk ?hi11 ?hc11 ?h111 ?hh11
                    case ho11 => rfl
                    case hx11 => simp [Act.eval, Act.put]
                    case hy11 => simp [Act.eval, Act.put, hv]
                    case hi11 => kernel_rfl
                    case hc11 => exact hcs
                    case h111 => simp [Value.oneCell']
                    case hh11 =>
                      have h2 := hK undef (w'.setRow b7 #[.int .i64 (doS kd n wide id cd Z).a0, .int .i64 (doS kd n wide id cd Z).a1, .int .i64 (doS kd n wide id cd Z).a2, .int .i64 (doS kd n wide id cd Z).a3, .int .i64 (doS kd n wide id cd Z).a4, .int .i64 (doS kd n wide id cd Z).a5, .int .i64 (doS kd n wide id cd Z).a6]) hB2 hs (fun j u hj h => h.keep (fun e => absurd e hj) (fun e => setRow_other _ _ _ _ hne.symm)) (fun j hj _ => plG.off hj)
                      exact h2
                  · (intro ys w' hB hN hP; simp only [Preds, Region.binds, plF, forall_const, and_true, true_and] at hP)
                    obtain ⟨cs, hcs, hblk⟩ := hB.2.2
                    have hv : ys 9 = .agg #[.int .i64 (doS kd n wide id cd Z).a0, .int .i64 (doS kd n wide id cd Z).a1, .int .i64 (doS kd n wide id cd Z).a2, .int .i64 (doS kd n wide id cd Z).a3, .int .i64 (doS kd n wide id cd Z).a4, .int .i64 (doS kd n wide id cd Z).a5, .int .i64 (doS kd n wide id cd Z).a6] := by simp [hP]
                    have hs := setRow_heap w' b6 cs #[.int .i64 (doS kd n wide id cd Z).a0, .int .i64 (doS kd n wide id cd Z).a1, .int .i64 (doS kd n wide id cd Z).a2, .int .i64 (doS kd n wide id cd Z).a3, .int .i64 (doS kd n wide id cd Z).a4, .int .i64 (doS kd n wide id cd Z).a5, .int .i64 (doS kd n wide id cd Z).a6] 24 (0, 0) hblk
                    have hB2 := hB.setq hne rfl hs setRow_upd
                    intro K hK
                    simp only [fillA]
                    with_reducible refine wp_store_row 24 (.tmp 6) (.tmp 45) ?ho12 b6 #[.int .i64 (doS kd n wide id cd Z).a0, .int .i64 (doS kd n wide id cd Z).a1, .int .i64 (doS kd n wide id cd Z).a2, .int .i64 (doS kd n wide id cd Z).a3, .int .i64 (doS kd n wide id cd Z).a4, .int .i64 (doS kd n wide id cd Z).a5, .int .i64 (doS kd n wide id cd Z).a6] ?hx12 ?hy12 24 cs hblk ?hi12 ?hc12 ?h112 ?hh12
                    case ho12 => rfl
                    case hx12 => simp [Act.eval, Act.put]
                    case hy12 => simp [Act.eval, Act.put, hv]
                    case hi12 => kernel_rfl
                    case hc12 => exact hcs
                    case h112 => simp [Value.oneCell']
                    case hh12 =>
                      have h2 := hK undef (w'.setRow b6 #[.int .i64 (doS kd n wide id cd Z).a0, .int .i64 (doS kd n wide id cd Z).a1, .int .i64 (doS kd n wide id cd Z).a2, .int .i64 (doS kd n wide id cd Z).a3, .int .i64 (doS kd n wide id cd Z).a4, .int .i64 (doS kd n wide id cd Z).a5, .int .i64 (doS kd n wide id cd Z).a6]) hB2 hs (fun j u hj h => h.keep (fun e => setRow_other _ _ _ _ hne) (fun e => absurd e hj)) (fun j hj _ => plG.off hj)
                      exact h2
                  · (intro ys w' hB hN hP K hK; simp only [Preds, Region.binds, plF, forall_const, and_true, true_and] at hP; simp only [fillA]; go_simp; (have h2 := fun v => hK v w' hB); simp only [plF, forall_eq] at h2; (have h2 := h2 (fun _ _ _ h => h) (fun _ _ h => h)); simp [fillA, Act.put, hP] at h2; exact h2)
                · clear hz7 hz6 hP
                  intro ys w' hB hF
                  have f0 : ys 0 = _ := hF 0 (by decide)
                  have f1 : ys 1 = _ := hF 1 (by decide)
                  have f2 : ys 2 = _ := hF 2 (by decide)
                  have f3 : ys 3 = _ := hF 3 (by decide)
                  have f4 : ys 4 = _ := hF 4 (by decide)
                  have f5 : ys 5 = _ := hF 5 (by decide)
                  have f6 : ys 6 = _ := hF 6 (by decide)
                  have f7 : ys 7 = _ := hF 7 (by decide)
                  have f8 : ys 8 = _ := hF 8 (by decide)
                  have f9 : ys 9 = _ := hF 9 (by decide)
                  have f10 : ys 10 = _ := hF 10 (by decide)
                  have f11 : _ = _ := hF 11 (by decide)
                  have f12 : _ = _ := hF 12 (by decide)
                  have f13 : ys 13 = _ := hF 13 (by decide)
                  clear hF
                  simp only [fillA, f0, f1, f2, f3, f4, f5, f6, f7, f8, f9, f10, f13]
                  clear f0 f1 f2 f3 f4 f5 f6 f7 f8 f9 f10 f13
                  obtain ⟨V, hV⟩ : ∃ V, V = doS kd n wide id cd Z := ⟨_, rfl⟩
                  rw [← hV] at f11 f12 ⊢
                  clear hV c0 c1 c2 c3 c4
                  have hS7 := fun (w9 : World) (hg : Gr w' w9) => Seven.of f11 hg
                  have hS6 := fun (w9 : World) (hg : Gr w' w9) => Seven.of f12 hg
                  unfold Seven at hS7 hS6
                  have hrf := stEq_refl V.a0 V.a1 V.a2 V.a3 V.a4 V.a5 V.a6
                  go_wp2_with fail
                  go_region_held3 (fun w9 => Gr w' w9 ∧ (w9.cell? ⟨b7, 0, none⟩ = some (.int .i64 V.a0) ∧ w9.cell? ⟨b7, 1, none⟩ = some (.int .i64 V.a1) ∧ w9.cell? ⟨b7, 2, none⟩ = some (.int .i64 V.a2) ∧ w9.cell? ⟨b7, 3, none⟩ = some (.int .i64 V.a3) ∧ w9.cell? ⟨b7, 4, none⟩ = some (.int .i64 V.a4) ∧ w9.cell? ⟨b7, 5, none⟩ = some (.int .i64 V.a5) ∧ w9.cell? ⟨b7, 6, none⟩ = some (.int .i64 V.a6)) ∧ (w9.cell? ⟨b6, 0, none⟩ = some (.int .i64 V.a0) ∧ w9.cell? ⟨b6, 1, none⟩ = some (.int .i64 V.a1) ∧ w9.cell? ⟨b6, 2, none⟩ = some (.int .i64 V.a2) ∧ w9.cell? ⟨b6, 3, none⟩ = some (.int .i64 V.a3) ∧ w9.cell? ⟨b6, 4, none⟩ = some (.int .i64 V.a4) ∧ w9.cell? ⟨b6, 5, none⟩ = some (.int .i64 V.a5) ∧ w9.cell? ⟨b6, 6, none⟩ = some (.int .i64 V.a6)))
                    ((refine (fun hg => ⟨hg, hS7 _ hg, hS6 _ hg⟩) ?_; (repeat (first | with_reducible exact Gr.refl _ | with_reducible assumption | with_reducible refine Gr.setCell ?_ (by simp; try omega) _ | with_reducible refine Gr.alloc ?_ _ | with_reducible refine Gr.drew ?_ | with_reducible refine Gr.drewN ?_ _ | with_reducible refine Gr.trans ?_ (by assumption)))))
                    (first | (go_at_call 19; refine (told10_any _ _ _ _ _ _ _ _).mono ?_; rintro e w8 ⟨rfl, hg8⟩))
                  go_wp2_with fail
                  have hgf : Gr w' w8 := ⟨hg8.os, hg8.tape, hg8.output, hg8.size, hg8.block⟩
                  go_roundw
                  case rel => exact ⟨k + 1, V, by omega, by omega, by go_num, hgf.blk f11, hgf.blk f12, hB.gr hgf⟩
                  case measure => simp [intOf]; omega
              · have hk30n : ¬ (k : Int) < 30 := by omega
                go_wp2_with fail
                go_roundw
                case rel => exact ⟨j + 1, by omega, by go_num, hgr.trans hgq⟩
                case measure => simp [intOf]; omega
            · have hkn : ¬ (k : Int) < (len : Int) := by omega
              go_wp2_with fail
              go_roundw
              case rel => exact ⟨j + 1, by omega, by go_num, hgr.trans hgq⟩
              case measure => simp [intOf]; omega
        · rw [hsy] at hnew
          have hYn := hnew.1 rfl
          clear hnew
          go_region_held3 (fun w9 => Gr wA w9 ∧ w9.cell? ⟨b6, 0, none⟩ = some (.int .i64 Y.a0) ∧ w9.cell? ⟨b6, 1, none⟩ = some (.int .i64 Y.a1) ∧ w9.cell? ⟨b6, 2, none⟩ = some (.int .i64 Y.a2) ∧ w9.cell? ⟨b6, 3, none⟩ = some (.int .i64 Y.a3) ∧ w9.cell? ⟨b6, 4, none⟩ = some (.int .i64 Y.a4) ∧ w9.cell? ⟨b6, 5, none⟩ = some (.int .i64 Y.a5) ∧ w9.cell? ⟨b6, 6, none⟩ = some (.int .i64 Y.a6))
            ((refine (fun hg => ⟨hg, hS _ hg⟩) ?_; (repeat (first | with_reducible exact Gr.refl _ | with_reducible assumption | with_reducible refine Gr.setCell ?_ (by simp; try omega) _ | with_reducible refine Gr.alloc ?_ _ | with_reducible refine Gr.drew ?_ | with_reducible refine Gr.drewN ?_ _ | with_reducible refine Gr.trans ?_ (by assumption)))))
            (first | (go_at_call 16; refine (rnew_any _).mono ?_; rintro e w8 ⟨rfl, hg8⟩))
          go_wp2_with (first
            | (go_at_call 17; refine (isnew_any _).mono ?_; rintro e w9 ⟨rfl, hg9⟩)
            | (refine wpList_store_seven rfl 27 _ _ rfl b7 #[.int .i64 1, .int .i64 1, .int .i64 4, .int .i64 4, .int .i64 0, .int .i64 2, .int .i64 0] rfl rfl 27 _ (hg9.blk (hg8.blk h7)) (by kernel_rfl) rfl (by kernel_rfl) ?_; intro wB hh hu))
          have hgA8 : Gr wA w8 := ⟨hg8.os, hg8.tape, hg8.output, hg8.size, hg8.block⟩
          have hgA9 := hgA8.trans hg9
          have hPB : BaseP wA b7 b6 wB := (hbase.gr hgA9).setp hne rfl hh hu
          have h7W : wB.heap[b7]? = some (.cells #[.int .i64 Y.a0, .int .i64 Y.a1, .int .i64 Y.a2, .int .i64 Y.a3, .int .i64 Y.a4, .int .i64 Y.a5, .int .i64 Y.a6] 27 (0, 0)) := by rw [hYn]; exact hh
          have h6W : wB.heap[b6]? = some (.cells #[.int .i64 Y.a0, .int .i64 Y.a1, .int .i64 Y.a2, .int .i64 Y.a3, .int .i64 Y.a4, .int .i64 Y.a5, .int .i64 Y.a6] 24 (0, 0)) := (hu.block b6 (blk_lt0 (hgA9.blk h6)) (by simp; exact fun e => hne e.symm)).trans (hgA9.blk h6)
          have hPW : BaseP wB b7 b6 wB := ⟨⟨rfl, rfl, rfl, Nat.le_refl _, fun _ _ _ => rfl⟩, ⟨_, rfl, h7W⟩, _, rfl, h6W⟩
          have hgW : Gr wr wB := hPB.fin hgA (by omega) (by omega)
          clear h7 h6 hbase hgA hgA8 hgA9 hg8 hg9 hh hu hPB hS hsy hYn
          go_loopw [8] (fun i wq => ∃ (k : Nat) (Z : S7), k ≤ len ∧ k ≤ 30 ∧ i = .int .i64 k ∧ wq.heap[b7]? = some (.cells #[.int .i64 Z.a0, .int .i64 Z.a1, .int .i64 Z.a2, .int .i64 Z.a3, .int .i64 Z.a4, .int .i64 Z.a5, .int .i64 Z.a6] 27 (0, 0)) ∧ wq.heap[b6]? = some (.cells #[.int .i64 Z.a0, .int .i64 Z.a1, .int .i64 Z.a2, .int .i64 Z.a3, .int .i64 Z.a4, .int .i64 Z.a5, .int .i64 Z.a6] 24 (0, 0)) ∧ BaseP wB b7 b6 wq) (fun i _ => 30 - (intOf i).toNat)
          case atStart => exact ⟨0, Y, by omega, by omega, rfl, h7W, h6W, hPW⟩
          case round =>
            obtain ⟨k, Z, hkl, hk3, rfl, hz7, hz6, hP⟩ := hrel
            clear h7W h6W hPW
            have hgq := hP.fin hgW hb7l hb6l
            have hwq := hgw4.trans hgq
            by_cases hk : k < len
            · have hkn : (k : Int) < (len : Int) := by omega
              by_cases hk30 : k < 30
              · have hk30n : (k : Int) < 30 := by omega
                obtain ⟨b, off, kd, n, wide, id, cd, rfl, hbw0, hcd0, hcd1, c0, c1, c2, c3, c4⟩ := act_at HX.out hk
                have k0 : (0 : Int) ≤ (k : Int) := by omega
                go_wp2_with fail
                refine wp_region_facts4 (plF b7 b6 b off len cap k kd n wide id cd Z) (BaseP wB b7 b6) (plG b7 b6 Z) plAnc (by kernel_rfl) (by kernel_rfl) (by kernel_rfl) (by kernel_rfl) (hP.gr ((Gr.refl _).drew)) ?_ ?_ ?_
                · intro i _
                  match i with
                  | 0 => exact hz7
                  | 1 => exact hz6
                  | _ + 2 => exact trivial
                · refine Steps4.cons1 1 rfl rfl ?_ (Steps4.cons1 2 rfl rfl ?_ (Steps4.cons1 3 rfl rfl ?_ (Steps4.cons1 4 rfl rfl ?_ (Steps4.cons1 5 rfl rfl ?_ (Steps4.cons1 6 rfl rfl ?_ (Steps4.cons1 7 rfl rfl ?_ (Steps4.cons1 8 rfl rfl ?_ (Steps4.cons1 9 rfl rfl ?_ (Steps4.cons1 10 rfl rfl ?_ (Steps4.cons1 11 rfl rfl ?_ (Steps4.cons1 12 rfl rfl ?_ (Steps4.cons1 13 rfl rfl ?_ (Steps4.cons1 14 rfl rfl ?_ (Steps4.nil))))))))))))))
                  · (intro ys w' hB hN hP; simp only [Preds, Region.binds, plF, forall_const, and_true, true_and] at hP)
                    have c7 := cells7 hN
                    intro K hK
                    simp only [fillA]
                    go_simp
                    have h2 := hK _ w' hB rfl (fun j u _ h => h) (fun _ _ h => h)
                    simp [fillA, Act.put, hP] at h2
                    exact h2
                  · (intro ys w' hB hN hP; simp only [Preds, Region.binds, plF, forall_const, and_true, true_and] at hP)
                    have c7 := cells7 hN
                    intro K hK
                    simp only [fillA]
                    go_simp
                    have h2 := hK _ w' hB rfl (fun j u _ h => h) (fun _ _ h => h)
                    simp [fillA, Act.put, hP] at h2
                    exact h2
                  · (intro ys w' hB hN hP K hK; simp only [Preds, Region.binds, plF, forall_const, and_true, true_and] at hP; simp only [fillA]; go_simp; (have h2 := fun v => hK v w' hB); simp only [plF, forall_eq] at h2; (have h2 := h2 (fun _ _ _ h => h) (fun _ _ h => h)); simp [fillA, Act.put, hP] at h2; exact h2)
                  · (intro ys w' hB hN hP K hK; simp only [Preds, Region.binds, plF, forall_const, and_true, true_and] at hP; simp only [fillA]; go_simp; (have h2 := fun v => hK v w' hB); simp only [plF, forall_eq] at h2; (have h2 := h2 (fun _ _ _ h => h) (fun _ _ h => h)); simp [fillA, Act.put, hP] at h2; exact h2)
                  · (intro ys w' hB hN hP K hK; simp only [Preds, Region.binds, plF, forall_const, and_true, true_and] at hP; simp only [fillA]; go_simp; (have h2 := fun v => hK v w' hB); simp only [plF, forall_eq] at h2; (have h2 := h2 (fun _ _ _ h => h) (fun _ _ h => h)); simp [fillA, Act.put, hP] at h2; exact h2)
                  · (intro ys w' hB hN hP; simp only [Preds, Region.binds, plF, forall_const, and_true, true_and] at hP)
                    have hgw' := hgw4.trans (hB.fin hgW hb7l hb6l)
                    have d0 := hgw'.cellAt c0
                    have d1 := hgw'.cellAt c1
                    have d2 := hgw'.cellAt c2
                    have d3 := hgw'.cellAt c3
                    have d4 := hgw'.cellAt c4
                    clear c0 c1 c2 c3 c4
                    intro K hK
                    simp only [fillA]
                    go_simp
                    have h2 := hK _ w' hB rfl (fun j u _ h => h) (fun _ _ h => h)
                    simp [fillA, Act.put, hP] at h2
                    exact h2
                  · (intro ys w' hB hN hP; simp only [Preds, Region.binds, plF, forall_const, and_true, true_and] at hP)
                    intro K hK
                    simp only [fillA]
                    go_simp
                    refine (do_any Z kd n wide id cd _ ⟨hcd0, hcd1⟩).mono ?_
                    rintro e w4 ⟨rfl, hg⟩
                    have h2 := hK _ w4 (hB.gr hg) rfl (fun j u _ h => h.gr hg) (fun _ _ h => h.gr hg)
                    simp [fillA, Act.put, hP] at h2
                    exact h2
                  · (intro ys w' hB hN hP K hK; simp only [Preds, Region.binds, plF, forall_const, and_true, true_and] at hP; simp only [fillA]; go_simp; (have h2 := fun v => hK v w' hB); simp only [plF, forall_eq] at h2; (have h2 := h2 (fun _ _ _ h => h) (fun _ _ h => h)); simp [fillA, Act.put, hP] at h2; exact h2)
                  · (intro ys w' hB hN hP K hK; simp only [Preds, Region.binds, plF, forall_const, and_true, true_and] at hP; simp only [fillA]; go_simp; (have h2 := fun v => hK v w' hB); simp only [plF, forall_eq] at h2; (have h2 := h2 (fun _ _ _ h => h) (fun _ _ h => h)); simp [fillA, Act.put, hP] at h2; exact h2)
                  · (intro ys w' hB hN hP K hK; simp only [Preds, Region.binds, plF, forall_const, and_true, true_and] at hP; simp only [fillA]; go_simp; (have h2 := fun v => hK v w' hB); simp only [plF, forall_eq] at h2; (have h2 := h2 (fun _ _ _ h => h) (fun _ _ h => h)); simp [fillA, Act.put, hP] at h2; exact h2)
                  · (intro ys w' hB hN hP K hK; simp only [Preds, Region.binds, plF, forall_const, and_true, true_and] at hP; simp only [fillA]; go_simp; (have h2 := fun v => hK v w' hB); simp only [plF, forall_eq] at h2; (have h2 := h2 (fun _ _ _ h => h) (fun _ _ h => h)); simp [fillA, Act.put, hP] at h2; exact h2)
                  · (intro ys w' hB hN hP; simp only [Preds, Region.binds, plF, forall_const, and_true, true_and] at hP)
                    obtain ⟨cs, hcs, hblk⟩ := hB.2.1
                    have hv : ys 8 = .agg #[.int .i64 (doS kd n wide id cd Z).a0, .int .i64 (doS kd n wide id cd Z).a1, .int .i64 (doS kd n wide id cd Z).a2, .int .i64 (doS kd n wide id cd Z).a3, .int .i64 (doS kd n wide id cd Z).a4, .int .i64 (doS kd n wide id cd Z).a5, .int .i64 (doS kd n wide id cd Z).a6] := by simp [hP]
                    have hs := setRow_heap w' b7 cs #[.int .i64 (doS kd n wide id cd Z).a0, .int .i64 (doS kd n wide id cd Z).a1, .int .i64 (doS kd n wide id cd Z).a2, .int .i64 (doS kd n wide id cd Z).a3, .int .i64 (doS kd n wide id cd Z).a4, .int .i64 (doS kd n wide id cd Z).a5, .int .i64 (doS kd n wide id cd Z).a6] 27 (0, 0) hblk
                    have hB2 := hB.setp hne rfl hs setRow_upd
                    intro K hK
                    simp only [fillA]
                    with_reducible refine wp_store_row 27 (.tmp 7) (.tmp 44) ?ho11 b7 #[.int .i64 (doS kd n wide id cd Z).a0, .int .i64 (doS kd n wide id cd Z).a1, .int .i64 (doS kd n wide id cd Z).a2, .int .i64 (doS kd n wide id cd Z).a3, .int .i64 (doS kd n wide id cd Z).a4, .int .i64 (doS kd n wide id cd Z).a5, .int .i64 (doS kd n wide id cd Z).a6] ?hx11 ?hy11 27 cs hblk ?hi11 ?hc11 ?h111 ?hh11
                    case ho11 => rfl
                    case hx11 => simp [Act.eval, Act.put]
                    case hy11 => simp [Act.eval, Act.put, hv]
                    case hi11 => kernel_rfl
                    case hc11 => exact hcs
                    case h111 => simp [Value.oneCell']
                    case hh11 =>
                      have h2 := hK undef (w'.setRow b7 #[.int .i64 (doS kd n wide id cd Z).a0, .int .i64 (doS kd n wide id cd Z).a1, .int .i64 (doS kd n wide id cd Z).a2, .int .i64 (doS kd n wide id cd Z).a3, .int .i64 (doS kd n wide id cd Z).a4, .int .i64 (doS kd n wide id cd Z).a5, .int .i64 (doS kd n wide id cd Z).a6]) hB2 hs (fun j u hj h => h.keep (fun e => absurd e hj) (fun e => setRow_other _ _ _ _ hne.symm)) (fun j hj _ => plG.off hj)
                      exact h2
                  · (intro ys w' hB hN hP; simp only [Preds, Region.binds, plF, forall_const, and_true, true_and] at hP)
                    obtain ⟨cs, hcs, hblk⟩ := hB.2.2
                    have hv : ys 9 = .agg #[.int .i64 (doS kd n wide id cd Z).a0, .int .i64 (doS kd n wide id cd Z).a1, .int .i64 (doS kd n wide id cd Z).a2, .int .i64 (doS kd n wide id cd Z).a3, .int .i64 (doS kd n wide id cd Z).a4, .int .i64 (doS kd n wide id cd Z).a5, .int .i64 (doS kd n wide id cd Z).a6] := by simp [hP]
                    have hs := setRow_heap w' b6 cs #[.int .i64 (doS kd n wide id cd Z).a0, .int .i64 (doS kd n wide id cd Z).a1, .int .i64 (doS kd n wide id cd Z).a2, .int .i64 (doS kd n wide id cd Z).a3, .int .i64 (doS kd n wide id cd Z).a4, .int .i64 (doS kd n wide id cd Z).a5, .int .i64 (doS kd n wide id cd Z).a6] 24 (0, 0) hblk
                    have hB2 := hB.setq hne rfl hs setRow_upd
                    intro K hK
                    simp only [fillA]
                    with_reducible refine wp_store_row 24 (.tmp 6) (.tmp 45) ?ho12 b6 #[.int .i64 (doS kd n wide id cd Z).a0, .int .i64 (doS kd n wide id cd Z).a1, .int .i64 (doS kd n wide id cd Z).a2, .int .i64 (doS kd n wide id cd Z).a3, .int .i64 (doS kd n wide id cd Z).a4, .int .i64 (doS kd n wide id cd Z).a5, .int .i64 (doS kd n wide id cd Z).a6] ?hx12 ?hy12 24 cs hblk ?hi12 ?hc12 ?h112 ?hh12
                    case ho12 => rfl
                    case hx12 => simp [Act.eval, Act.put]
                    case hy12 => simp [Act.eval, Act.put, hv]
                    case hi12 => kernel_rfl
                    case hc12 => exact hcs
                    case h112 => simp [Value.oneCell']
                    case hh12 =>
                      have h2 := hK undef (w'.setRow b6 #[.int .i64 (doS kd n wide id cd Z).a0, .int .i64 (doS kd n wide id cd Z).a1, .int .i64 (doS kd n wide id cd Z).a2, .int .i64 (doS kd n wide id cd Z).a3, .int .i64 (doS kd n wide id cd Z).a4, .int .i64 (doS kd n wide id cd Z).a5, .int .i64 (doS kd n wide id cd Z).a6]) hB2 hs (fun j u hj h => h.keep (fun e => setRow_other _ _ _ _ hne) (fun e => absurd e hj)) (fun j hj _ => plG.off hj)
                      exact h2
                  · (intro ys w' hB hN hP K hK; simp only [Preds, Region.binds, plF, forall_const, and_true, true_and] at hP; simp only [fillA]; go_simp; (have h2 := fun v => hK v w' hB); simp only [plF, forall_eq] at h2; (have h2 := h2 (fun _ _ _ h => h) (fun _ _ h => h)); simp [fillA, Act.put, hP] at h2; exact h2)
                · clear hz7 hz6 hP
                  intro ys w' hB hF
                  have f0 : ys 0 = _ := hF 0 (by decide)
                  have f1 : ys 1 = _ := hF 1 (by decide)
                  have f2 : ys 2 = _ := hF 2 (by decide)
                  have f3 : ys 3 = _ := hF 3 (by decide)
                  have f4 : ys 4 = _ := hF 4 (by decide)
                  have f5 : ys 5 = _ := hF 5 (by decide)
                  have f6 : ys 6 = _ := hF 6 (by decide)
                  have f7 : ys 7 = _ := hF 7 (by decide)
                  have f8 : ys 8 = _ := hF 8 (by decide)
                  have f9 : ys 9 = _ := hF 9 (by decide)
                  have f10 : ys 10 = _ := hF 10 (by decide)
                  have f11 : _ = _ := hF 11 (by decide)
                  have f12 : _ = _ := hF 12 (by decide)
                  have f13 : ys 13 = _ := hF 13 (by decide)
                  clear hF
                  simp only [fillA, f0, f1, f2, f3, f4, f5, f6, f7, f8, f9, f10, f13]
                  clear f0 f1 f2 f3 f4 f5 f6 f7 f8 f9 f10 f13
                  obtain ⟨V, hV⟩ : ∃ V, V = doS kd n wide id cd Z := ⟨_, rfl⟩
                  rw [← hV] at f11 f12 ⊢
                  clear hV c0 c1 c2 c3 c4
                  have hS7 := fun (w9 : World) (hg : Gr w' w9) => Seven.of f11 hg
                  have hS6 := fun (w9 : World) (hg : Gr w' w9) => Seven.of f12 hg
                  unfold Seven at hS7 hS6
                  have hrf := stEq_refl V.a0 V.a1 V.a2 V.a3 V.a4 V.a5 V.a6
                  go_wp2_with fail
                  go_region_held3 (fun w9 => Gr w' w9 ∧ (w9.cell? ⟨b7, 0, none⟩ = some (.int .i64 V.a0) ∧ w9.cell? ⟨b7, 1, none⟩ = some (.int .i64 V.a1) ∧ w9.cell? ⟨b7, 2, none⟩ = some (.int .i64 V.a2) ∧ w9.cell? ⟨b7, 3, none⟩ = some (.int .i64 V.a3) ∧ w9.cell? ⟨b7, 4, none⟩ = some (.int .i64 V.a4) ∧ w9.cell? ⟨b7, 5, none⟩ = some (.int .i64 V.a5) ∧ w9.cell? ⟨b7, 6, none⟩ = some (.int .i64 V.a6)) ∧ (w9.cell? ⟨b6, 0, none⟩ = some (.int .i64 V.a0) ∧ w9.cell? ⟨b6, 1, none⟩ = some (.int .i64 V.a1) ∧ w9.cell? ⟨b6, 2, none⟩ = some (.int .i64 V.a2) ∧ w9.cell? ⟨b6, 3, none⟩ = some (.int .i64 V.a3) ∧ w9.cell? ⟨b6, 4, none⟩ = some (.int .i64 V.a4) ∧ w9.cell? ⟨b6, 5, none⟩ = some (.int .i64 V.a5) ∧ w9.cell? ⟨b6, 6, none⟩ = some (.int .i64 V.a6)))
                    ((refine (fun hg => ⟨hg, hS7 _ hg, hS6 _ hg⟩) ?_; (repeat (first | with_reducible exact Gr.refl _ | with_reducible assumption | with_reducible refine Gr.setCell ?_ (by simp; try omega) _ | with_reducible refine Gr.alloc ?_ _ | with_reducible refine Gr.drew ?_ | with_reducible refine Gr.drewN ?_ _ | with_reducible refine Gr.trans ?_ (by assumption)))))
                    (first | (go_at_call 19; refine (told10_any _ _ _ _ _ _ _ _).mono ?_; rintro e w8 ⟨rfl, hg8⟩))
                  go_wp2_with fail
                  have hgf : Gr w' w8 := ⟨hg8.os, hg8.tape, hg8.output, hg8.size, hg8.block⟩
                  go_roundw
                  case rel => exact ⟨k + 1, V, by omega, by omega, by go_num, hgf.blk f11, hgf.blk f12, hB.gr hgf⟩
                  case measure => simp [intOf]; omega
              · have hk30n : ¬ (k : Int) < 30 := by omega
                go_wp2_with fail
                go_roundw
                case rel => exact ⟨j + 1, by omega, by go_num, hgr.trans hgq⟩
                case measure => simp [intOf]; omega
            · have hkn : ¬ (k : Int) < (len : Int) := by omega
              go_wp2_with fail
              go_roundw
              case rel => exact ⟨j + 1, by omega, by go_num, hgr.trans hgq⟩
              case measure => simp [intOf]; omega
      · have hjn : ¬ (j : Int) < 2 := by omega
        go_wp2_with fail
        go_ret
        exact ⟨rfl, hgw3.trans hgr⟩
end Go.Proofs.Ytomflpkokcldeaa
