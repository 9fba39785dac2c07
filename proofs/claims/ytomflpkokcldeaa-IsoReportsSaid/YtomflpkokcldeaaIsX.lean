/-
  The law that reports of both texts are the same and read back, walked.
-/
import Derived.Test.YtomflpkokcldeaaIsW
import Derived.Test.YtomflpkokcldeaaIsE
import Derived.Deep.DeepCutAuto
import Derived.Deep.CutBlock
namespace Go.Proofs.Ytomflpkokcldeaa
set_option linter.unusedSimpArgs false
set_option linter.unusedVariables false
open Go.RowKit
set_option linter.unusedVariables false

theorem idx4 (a b c d : Int) (k : Nat) (hk : k < 4) (w : World) : (Instr.index 22 (.agg #[.int .i64 a, .int .i64 b, .int .i64 c, .int .i64 d]) (.int .i64 k)).run Try.prog w = .ok (.int .i64 (gNo a b c d k)) w := by
  have x0 : ∀ (a b c d : Value) w, (Instr.index 22 (.agg #[a, b, c, d]) (.int .i64 0)).run Try.prog w = .ok a w := fun _ _ _ _ _ => by kernel_rfl
  have x1 : ∀ (a b c d : Value) w, (Instr.index 22 (.agg #[a, b, c, d]) (.int .i64 1)).run Try.prog w = .ok b w := fun _ _ _ _ _ => by kernel_rfl
  have x2 : ∀ (a b c d : Value) w, (Instr.index 22 (.agg #[a, b, c, d]) (.int .i64 2)).run Try.prog w = .ok c w := fun _ _ _ _ _ => by kernel_rfl
  have x3 : ∀ (a b c d : Value) w, (Instr.index 22 (.agg #[a, b, c, d]) (.int .i64 3)).run Try.prog w = .ok d w := fun _ _ _ _ _ => by kernel_rfl
  rcases (by omega : k = 0 ∨ k = 1 ∨ k = 2 ∨ k = 3) with rfl | rfl | rfl | rfl
  · exact x0 _ _ _ _ w
  · exact x1 _ _ _ _ w
  · exact x2 _ _ _ _ w
  · exact x3 _ _ _ _ w
/-- What the operations of the last restoring leave. -/
def xrF (bX : Nat) (w0 : World) (T : TypeId) (X Y : S7) (sz : Int) (s2 : ByteArray) (V : S7) (ok : Bool) : Nat → (Nat → Value) → World → Prop
  | 0, ys, _ => ys 0 = .agg #[.int .i64 Y.a0, .int .i64 Y.a1, .int .i64 Y.a2, .int .i64 Y.a3, .int .i64 Y.a4, .int .i64 Y.a5, .int .i64 Y.a6]
  | 1, ys, _ => ys 1 = .agg #[.int .i64 Y.a0, .int .i64 Y.a1, .int .i64 Y.a2, .int .i64 Y.a3, .int .i64 Y.a4, .int .i64 Y.a5, .int .i64 Y.a6]
  | 2, ys, _ => ys 2 = .pointer (some ⟨bX, 4, none⟩)
  | 3, ys, _ => ys 3 = .int .i64 X.a4
  | 4, ys, _ => ys 4 = .pointer (some ⟨bX, 5, none⟩)
  | 5, ys, _ => ys 5 = .int .i64 X.a5
  | 6, ys, _ => ys 6 = .int .u8 sz
  | 7, ys, _ => ys 7 = .string s2
  | 8, ys, _ => ys 8 = .tuple #[.agg #[.int .i64 V.a0, .int .i64 V.a1, .int .i64 V.a2, .int .i64 V.a3, .int .i64 V.a4, .int .i64 V.a5, .int .i64 V.a6], .bool ok]
  | 9, ys, _ => ys 9 = .tuple #[.agg #[.int .i64 V.a0, .int .i64 V.a1, .int .i64 V.a2, .int .i64 V.a3, .int .i64 V.a4, .int .i64 V.a5, .int .i64 V.a6], .bool ok]
  | 10, ys, _ => ys 10 = .agg #[.int .i64 V.a0, .int .i64 V.a1, .int .i64 V.a2, .int .i64 V.a3, .int .i64 V.a4, .int .i64 V.a5, .int .i64 V.a6]
  | 11, ys, _ => ys 11 = .bool ok
  | 12, ys, w => ∃ p cs, ys 12 = .pointer (some ⟨p, 0, none⟩) ∧ w0.heap.size ≤ p ∧ cs.size = 7 ∧ w.heap[p]? = some (.cells cs T (0, 0))
  | 13, ys, w => ∃ p, ys 12 = .pointer (some ⟨p, 0, none⟩) ∧ w0.heap.size ≤ p ∧ w.heap[p]? = some (.cells #[.int .i64 V.a0, .int .i64 V.a1, .int .i64 V.a2, .int .i64 V.a3, .int .i64 V.a4, .int .i64 V.a5, .int .i64 V.a6] T (0, 0))
  | 14, ys, _ => ys 14 = .bool ok
  | _, _, _ => True
theorem xrF.gr {bX : Nat} {w0 w w' : World} {T : TypeId} {X Y V : S7} {sz : Int} {ok : Bool} {s2 : ByteArray} {j : Nat} {ys : Nat → Value} (h : xrF bX w0 T X Y sz s2 V ok j ys w) (hg : Gr w w') : xrF bX w0 T X Y sz s2 V ok j ys w' := by
  match j, h with
  | 0, h | 1, h | 2, h | 3, h | 4, h | 5, h | 6, h | 7, h | 8, h | 9, h | 10, h | 11, h | 14, h => exact h
  | 12, h => obtain ⟨p, cs, h1, h2, h3, h4⟩ := h; exact ⟨p, cs, h1, h2, h3, hg.blk h4⟩
  | 13, h => obtain ⟨p, h1, h2, h3⟩ := h; exact ⟨p, h1, h2, hg.blk h3⟩
  | _ + 15, _ => exact trivial
theorem xrF.set {bX : Nat} {w0 w w' : World} {T : TypeId} {X Y V : S7} {sz : Int} {ok : Bool} {s2 : ByteArray} {j : Nat} {ys : Nat → Value} {g : Nat} {cells : Array Value} (h : xrF bX w0 T X Y sz s2 V ok j ys w) (hcs : cells.size = 7)
    (hs : w'.heap[g]? = some (.cells cells T (0, 0))) (hb : ∀ k, k ≠ g → w'.heap[k]? = w.heap[k]?) (h16 : j ≠ 13) : xrF bX w0 T X Y sz s2 V ok j ys w' := by
  match j, h with
  | 0, h | 1, h | 2, h | 3, h | 4, h | 5, h | 6, h | 7, h | 8, h | 9, h | 10, h | 11, h | 14, h => exact h
  | 12, h =>
    obtain ⟨p, cs, h1, h2, h3, h4⟩ := h
    by_cases e : p = g
    · subst e; exact ⟨p, cells, h1, h2, hcs, hs⟩
    · exact ⟨p, cs, h1, h2, h3, (hb p e).trans h4⟩
  | 13, _ => exact absurd rfl h16
  | _ + 15, _ => exact trivial
theorem xrF.at13 {bX : Nat} {w0 w : World} {T : TypeId} {X Y V : S7} {sz : Int} {ok : Bool} {s2 : ByteArray} {g : Nat} {ys : Nat → Value} (v : Value) (hq : ys 12 = .pointer (some ⟨g, 0, none⟩)) (hge : w0.heap.size ≤ g) (hs : w.heap[g]? = some (.cells #[.int .i64 V.a0, .int .i64 V.a1, .int .i64 V.a2, .int .i64 V.a3, .int .i64 V.a4, .int .i64 V.a5, .int .i64 V.a6] T (0, 0))) :
    xrF bX w0 T X Y sz s2 V ok 13 (setY ys 13 v) w := ⟨g, hq, hge, hs⟩

/-- A text that is one of a list. -/
def StrV (v : Value) : Prop := ∃ l2, v = .string (bsl l2) ∧ l2.length ≤ maxLen
theorem bsl_of_ (s : ByteArray) : s = bsl s.data.toList := by simp [bsl]
/-- Are the first k sets such as are told? -/
def gdN (g : Nat → Int) (ur : Int) : Nat → Bool
  | 0 => decide (0 < ur)
  | k + 1 => gdN g ur k && (between 1 17 (g k) && (decide (0 < k) || g k != 5))
theorem gdN_all {g : Nat → Int} {ur : Int} : gdN g ur 4 = true → 0 < ur ∧ (∀ k, k < 4 → between 1 17 (g k) = true) ∧ wideOf (g 0) = false := by
  intro h
  simp only [gdN, Bool.and_eq_true, decide_eq_true_eq, Bool.or_eq_true, bne_iff_ne, ne_eq] at h
  obtain ⟨⟨⟨⟨h, h0, h05⟩, h1, _⟩, h2, _⟩, h3, _⟩ := h
  refine ⟨h, fun k hk => ?_, ?_⟩
  · rcases (by omega : k = 0 ∨ k = 1 ∨ k = 2 ∨ k = 3) with rfl | rfl | rfl | rfl <;> assumption
  · rw [wide5 _ h0]; simpa using h05
theorem uL_between (x : Int) : between 0 3 (uL x) = true := by
  rcases uL_cases x with h | h | h | h <;> rw [h] <;> decide
theorem uR_between (x : Int) (h : 0 < uR x) : between 1 3 (uR x) = true := by
  rcases uR_cases x with h0 | h0 | h0 | h0 <;> rw [h0] at h ⊢ <;> first | decide | omega

set_option maxRecDepth 100000 in
set_option maxHeartbeats 2000000 in
theorem reports_walk (X Y : S7) (s : ByteArray) (w : World) (hs : s.size ≤ maxLen) :
    Calls Try.prog 6 #[.agg X.cells, .agg Y.cells, .string s] w fun e w' => e = .returned (.bool true) ∧ Gr w w' := by
  unfold S7.cells
  obtain ⟨sz, hsz⟩ : ∃ z, z = repSize (gNo X.a0 X.a1 X.a2 X.a3) 4 := ⟨_, rfl⟩
  obtain ⟨l, hl⟩ : ∃ l, l = repIds (gNo X.a0 X.a1 X.a2 X.a3) 4 := ⟨_, rfl⟩
  have hrep := fun w => report_any X.a0 X.a1 X.a2 X.a3 X.a4 X.a5 X.a6 w
  have hrrep := fun w => rreport_any X.a0 X.a1 X.a2 X.a3 X.a4 X.a5 X.a6 w
  have huse := fun w => usedU X.a0 X.a1 X.a2 X.a3 X.a4 X.a5 X.a6 w
  rw [← hsz, ← hl] at hrep hrrep
  obtain ⟨ul, hul⟩ : ∃ z, z = uL X.a4 := ⟨_, rfl⟩
  obtain ⟨ur, hur⟩ : ∃ z, z = uR X.a5 := ⟨_, rfl⟩
  rw [← hul, ← hur] at hrep huse
  have hbl : (⟨l.toArray⟩ : ByteArray) = bsl l := rfl
  rw [hbl] at hrep hrrep
  have hszr : 0 ≤ sz ∧ sz < 256 := by
    have := rep_between (gNo X.a0 X.a1 X.a2 X.a3)
    rw [← hsz] at this; simp [between] at this; omega
  have hll : l.length ≤ maxLen := by
    have := repIds_len (gNo X.a0 X.a1 X.a2 X.a3) 4
    rw [← hl] at this; unfold maxLen; omega
  have hrst := fun w => rst_any Y ul ur sz l w hszr hll
  have hrrst := fun w => rrst_any Y ul ur sz l w hszr hll
  obtain ⟨R, hR⟩ : ∃ R, R = rstR sz ul ur Y l := ⟨_, rfl⟩
  rw [← hR] at hrst hrrst
  unfold S7.cells at hrst hrrst
  have HR := Lib.hid hR; have HLL := Lib.hid hll
  have HSZR := Lib.hid hszr
  clear hR hbl hll hszr
  have HSZ := Lib.hid hsz; have HL := Lib.hid hl; have HUL := Lib.hid hul; have HUR := Lib.hid hur
  clear hsz hl hul hur
  have hX0 : ((w.alloc (.cells #[.int .i64 X.a0, .int .i64 X.a1, .int .i64 X.a2, .int .i64 X.a3, .int .i64 X.a4, .int .i64 X.a5, .int .i64 X.a6] 24)).alloc (.cells #[.int .i64 Y.a0, .int .i64 Y.a1, .int .i64 Y.a2, .int .i64 Y.a3, .int .i64 Y.a4, .int .i64 Y.a5, .int .i64 Y.a6] 24)).heap[w.heap.size]? = some (.cells #[.int .i64 X.a0, .int .i64 X.a1, .int .i64 X.a2, .int .i64 X.a3, .int .i64 X.a4, .int .i64 X.a5, .int .i64 X.a6] 24 (0, 0)) := ((Gr.refl _).alloc _).blk (heap_alloc_new w _)
  have hY0 : ((w.alloc (.cells #[.int .i64 X.a0, .int .i64 X.a1, .int .i64 X.a2, .int .i64 X.a3, .int .i64 X.a4, .int .i64 X.a5, .int .i64 X.a6] 24)).alloc (.cells #[.int .i64 Y.a0, .int .i64 Y.a1, .int .i64 Y.a2, .int .i64 Y.a3, .int .i64 Y.a4, .int .i64 Y.a5, .int .i64 Y.a6] 24)).heap[w.heap.size + 1]? = some (.cells #[.int .i64 Y.a0, .int .i64 Y.a1, .int .i64 Y.a2, .int .i64 Y.a3, .int .i64 Y.a4, .int .i64 Y.a5, .int .i64 Y.a6] 24 (0, 0)) := by have := heap_alloc_new (w.alloc (.cells #[.int .i64 X.a0, .int .i64 X.a1, .int .i64 X.a2, .int .i64 X.a3, .int .i64 X.a4, .int .i64 X.a5, .int .i64 X.a6] 24)) (.cells #[.int .i64 Y.a0, .int .i64 Y.a1, .int .i64 Y.a2, .int .i64 Y.a3, .int .i64 Y.a4, .int .i64 Y.a5, .int .i64 Y.a6] 24); simpa using this
  go_enter Try.func6, Try.ntmps6
  go_wp2_with fail
  refine (awake10 _).mono ?_
  rintro e w1 ⟨rfl, hb1⟩
  obtain ⟨hc1, hf1, hz1⟩ := hb1.facts
  try simp at hz1
  try have : w.heap.size < w1.heap.size := by omega
  have hX1 := hb1.blk hX0
  have hY1 := hb1.blk hY0
  have hgw1 : Gr w w1 := (((Gr.refl w).alloc _).alloc _).trans hb1
  clear hb1 hc1 hf1 hz1 hX0 hY0
  have q1 := cells7 hX1
  go_wp2_with (first
    | (go_at_call 8; refine (own10_any _ _ _ _ _ _ _ _).mono ?_; rintro e w2 ⟨rfl, hg2⟩; clear q1)
    | (go_at_call 8; refine (own10_any _ _ _ _ _ _ _ _).mono ?_; rintro e w6 ⟨rfl, hg6⟩; clear q5 p5)
    | (go_at_call 23; refine (hrst _).mono ?_; rintro e w7 ⟨rfl, hg7⟩; have hG7 := ((hG5.trans hg6).trans hg7).trans ((Gr.refl w7).alloc (.cells #[.int .i64 R.1.a0, .int .i64 R.1.a1, .int .i64 R.1.a2, .int .i64 R.1.a3, .int .i64 R.1.a4, .int .i64 R.1.a5, .int .i64 R.1.a6] 27)); have hR7 := heap_alloc_new w7 (.cells #[.int .i64 R.1.a0, .int .i64 R.1.a1, .int .i64 R.1.a2, .int .i64 R.1.a3, .int .i64 R.1.a4, .int .i64 R.1.a5, .int .i64 R.1.a6] 27); have p7 := cells7 (hG7.blk hY1))
    | (go_at_call 24; refine (hrrst _).mono ?_; rintro e w8 ⟨rfl, hg8⟩; clear p7; have hG8 := (hG7.trans hg8).trans ((Gr.refl w8).alloc (.cells #[.int .i64 R.1.a0, .int .i64 R.1.a1, .int .i64 R.1.a2, .int .i64 R.1.a3, .int .i64 R.1.a4, .int .i64 R.1.a5, .int .i64 R.1.a6] 24)); have hR8 := heap_alloc_new w8 (.cells #[.int .i64 R.1.a0, .int .i64 R.1.a1, .int .i64 R.1.a2, .int .i64 R.1.a3, .int .i64 R.1.a4, .int .i64 R.1.a5, .int .i64 R.1.a6] 24))
    | (go_at_call 20; refine (hrep _).mono ?_; rintro e w3 ⟨rfl, hg3⟩; have hG3 := hg2.trans hg3; have q3 := cells7 (hG3.blk hX1))
    | (go_at_call 21; refine (huse _).mono ?_; rintro e w4 ⟨rfl, hg4⟩; clear q3; have hG4 := hG3.trans hg4; have q4 := cells7 (hG4.blk hX1))
    | (go_at_call 22; refine (hrrep _).mono ?_; rintro e w5 ⟨rfl, hg5⟩; clear q4; have hG5 := hG4.trans hg5; have q5 := cells7 (hG5.blk hX1); have p5 := cells7 (hG5.blk hY1)))
  obtain ⟨wA, hwA⟩ : ∃ wA, wA = w8.alloc (.cells #[.int .i64 R.1.a0, .int .i64 R.1.a1, .int .i64 R.1.a2, .int .i64 R.1.a3, .int .i64 R.1.a4, .int .i64 R.1.a5, .int .i64 R.1.a6] 24) := ⟨_, rfl⟩
  rw [← hwA] at hG8 hR8 ⊢
  have hR7A : wA.heap[w7.heap.size]? = some (.cells #[.int .i64 R.1.a0, .int .i64 R.1.a1, .int .i64 R.1.a2, .int .i64 R.1.a3, .int .i64 R.1.a4, .int .i64 R.1.a5, .int .i64 R.1.a6] 27 (0, 0)) := by rw [hwA]; exact (hg8.trans ((Gr.refl w8).alloc _)).blk hR7
  clear hwA hR7
  have hXA := hG8.blk hX1
  have hYA := hG8.blk hY1
  have hgA := hgw1.trans hG8
  obtain ⟨bX, hbX⟩ : ∃ b, b = w.heap.size := ⟨_, rfl⟩
  obtain ⟨bY, hbY⟩ : ∃ b, b = w.heap.size + 1 := ⟨_, rfl⟩
  obtain ⟨b15, hb15⟩ : ∃ b, b = w7.heap.size := ⟨_, rfl⟩
  obtain ⟨b17, hb17⟩ : ∃ b, b = w8.heap.size := ⟨_, rfl⟩
  rw [← hbY] at hYA ⊢
  rw [← hbX] at hXA ⊢
  rw [← hb15] at hR7A ⊢
  rw [← hb17] at hR8 ⊢
  have HBX := Lib.hid hbX; have HBY := Lib.hid hbY
  clear hbX hbY hb15 hb17 hG7 hg6 hg7 hg8 hG5 hG4 hG3 hg2 hg3 hg4 hg5 hG8 hX1 hY1 hgw1 hrep hrrep huse
  have hS7 := fun (w9 : World) (hg : Gr wA w9) => Seven.of hR7A hg
  have hS8 := fun (w9 : World) (hg : Gr wA w9) => Seven.of hR8 hg
  unfold Seven at hS7 hS8
  have hrf := stEq_refl R.1.a0 R.1.a1 R.1.a2 R.1.a3 R.1.a4 R.1.a5 R.1.a6
  have hst := fun a0 a1 a2 a3 a4 a5 a6 b0 b1 b2 b3 b4 b5 b6 w => eq_st 24 (.inr rfl) a0 a1 a2 a3 a4 a5 a6 b0 b1 b2 b3 b4 b5 b6 w
  go_region_held3 (fun w9 => Gr wA w9 ∧ (w9.cell? ⟨b15, 0, none⟩ = some (.int .i64 R.1.a0) ∧ w9.cell? ⟨b15, 1, none⟩ = some (.int .i64 R.1.a1) ∧ w9.cell? ⟨b15, 2, none⟩ = some (.int .i64 R.1.a2) ∧ w9.cell? ⟨b15, 3, none⟩ = some (.int .i64 R.1.a3) ∧ w9.cell? ⟨b15, 4, none⟩ = some (.int .i64 R.1.a4) ∧ w9.cell? ⟨b15, 5, none⟩ = some (.int .i64 R.1.a5) ∧ w9.cell? ⟨b15, 6, none⟩ = some (.int .i64 R.1.a6)) ∧ (w9.cell? ⟨b17, 0, none⟩ = some (.int .i64 R.1.a0) ∧ w9.cell? ⟨b17, 1, none⟩ = some (.int .i64 R.1.a1) ∧ w9.cell? ⟨b17, 2, none⟩ = some (.int .i64 R.1.a2) ∧ w9.cell? ⟨b17, 3, none⟩ = some (.int .i64 R.1.a3) ∧ w9.cell? ⟨b17, 4, none⟩ = some (.int .i64 R.1.a4) ∧ w9.cell? ⟨b17, 5, none⟩ = some (.int .i64 R.1.a5) ∧ w9.cell? ⟨b17, 6, none⟩ = some (.int .i64 R.1.a6)))
    ((refine (fun hg => ⟨hg, hS7 _ hg, hS8 _ hg⟩) ?_; (repeat (first | with_reducible exact Gr.refl _ | with_reducible assumption | with_reducible refine Gr.setCell ?_ (by simp; try omega) _ | with_reducible refine Gr.alloc ?_ _ | with_reducible refine Gr.drew ?_ | with_reducible refine Gr.drewN ?_ _ | with_reducible refine Gr.trans ?_ (by assumption)))))
    (first | (go_at_call 19; refine (told10_any _ _ _ _ _ _ _ _).mono ?_; rintro e wB ⟨rfl, hgB⟩))
  have hgAB : Gr wA wB := ⟨hgB.os, hgB.tape, hgB.output, hgB.size, hgB.block⟩
  have qX := cells7 (hgAB.blk hXA)
  have hidx := fun k (hk : k < 4) w => idx4 X.a0 X.a1 X.a2 X.a3 k hk w
  have hX1 := hgAB.blk hXA
  have hY1 := hgAB.blk hYA
  have hgB1 := hgA.trans hgAB
  have q15 := cells7 (hgAB.blk hR7A)
  have qY := cells7 hY1
  have har := fun a0 a1 a2 a3 b0 b1 b2 b3 w => eq_arr 9998 a0 a1 a2 a3 b0 b1 b2 b3 w
  simp only [Nat.reduceAdd] at har
  clear hS7 hS8 hst hrf hgB hgA hXA hYA hR7A hR8
  rename_i hheld
  clear hheld
  go_wp2_with fail
  go_loop [19, 94] (fun gv iv => ∃ k : Nat, k ≤ 4 ∧ iv = .int .i64 (k : Int) ∧ gv = .bool (gdN (gNo X.a0 X.a1 X.a2 X.a3) ur k)) (fun _ iv => (4 - intOf iv).toNat)
  case atStart => exact ⟨0, by omega, rfl, rfl⟩
  case round =>
    obtain ⟨k, hk, rfl, rfl⟩ := hrel
    by_cases hlt : k < 4
    · have hlt' : (k : Int) < 4 := by omega
      have hx := hidx k hlt
      obtain ⟨gk, hgk⟩ : ∃ z, z = gNo X.a0 X.a1 X.a2 X.a3 k := ⟨_, rfl⟩
      rw [← hgk] at hx
      have hN : gdN (gNo X.a0 X.a1 X.a2 X.a3) ur (k + 1) = (gdN (gNo X.a0 X.a1 X.a2 X.a3) ur k && (between 1 17 gk && (decide (0 < k) || gk != 5))) := by rw [hgk]; rfl
      have HN := Lib.hid hN
      clear hN hgk hidx har q15 qY qX
      rcases hG : gdN (gNo X.a0 X.a1 X.a2 X.a3) ur k with _ | _
      · have hv : gdN (gNo X.a0 X.a1 X.a2 X.a3) ur (k + 1) = false := by rw [HN.out, hG]; rfl
        have HV := Lib.hid hv; clear hv
        clear HN
        go_wp2_with fail
        go_round
        case rel => exact ⟨k + 1, by omega, by go_num, by rw [HV.out]⟩
        case measure => simp [intOf]; omega
      · by_cases h1 : 1 ≤ gk
        · by_cases h17 : gk ≤ 17
          · have hbt : between 1 17 gk = true := by simp [between]; omega
            by_cases h0 : 0 < k
            · have hv : gdN (gNo X.a0 X.a1 X.a2 X.a3) ur (k + 1) = true := by rw [HN.out, hG, hbt]; simp [h0]
              have HV := Lib.hid hv; clear hv
              clear HN hbt
              go_wp2_with fail
              go_round
              case rel => exact ⟨k + 1, by omega, by go_num, by rw [HV.out]⟩
              case measure => simp [intOf]; omega
            · rcases h5 : (gk != 5) with _ | _
              · have hv : gdN (gNo X.a0 X.a1 X.a2 X.a3) ur (k + 1) = false := by rw [HN.out, hG, hbt, h5]; simp [h0]
                have HV := Lib.hid hv; clear hv
                clear HN hbt
                go_wp2_with fail
                go_round
                case rel => exact ⟨k + 1, by omega, by go_num, by rw [HV.out]⟩
                case measure => simp [intOf]; omega
              · have hv : gdN (gNo X.a0 X.a1 X.a2 X.a3) ur (k + 1) = true := by rw [HN.out, hG, hbt, h5]; simp
                have HV := Lib.hid hv; clear hv
                clear HN hbt
                go_wp2_with fail
                go_round
                case rel => exact ⟨k + 1, by omega, by go_num, by rw [HV.out]⟩
                case measure => simp [intOf]; omega
          · have hv : gdN (gNo X.a0 X.a1 X.a2 X.a3) ur (k + 1) = false := by rw [HN.out, hG]; simp [between]; omega
            have HV := Lib.hid hv; clear hv
            clear HN
            go_wp2_with fail
            go_round
            case rel => exact ⟨k + 1, by omega, by go_num, by rw [HV.out]⟩
            case measure => simp [intOf]; omega
        · have hv : gdN (gNo X.a0 X.a1 X.a2 X.a3) ur (k + 1) = false := by rw [HN.out, hG]; simp [between]; omega
          have HV := Lib.hid hv; clear hv
          clear HN
          go_wp2_with fail
          go_round
          case rel => exact ⟨k + 1, by omega, by go_num, by rw [HV.out]⟩
          case measure => simp [intOf]; omega
    · obtain rfl : k = 4 := by omega
      obtain ⟨gd, hgd⟩ : ∃ z, z = gdN (gNo X.a0 X.a1 X.a2 X.a3) ur 4 := ⟨_, rfl⟩
      rw [← hgd]
      have HGD := Lib.hid hgd
      clear hgd
      obtain ⟨okR, hokR⟩ : ∃ z, z = R.2 := ⟨_, rfl⟩
      rw [← hokR]
      have HOK := Lib.hid hokR
      clear hokR
      go_upto_region 18 with fail
      go_cut [146] (fun v wx => wB = wx ∧ v = .bool false)
      case first =>
        rcases gd with _ | _
        · go_wp2_with fail
          go_meet
          exact ⟨rfl, rfl⟩
        · have hrr : R = (⟨X.a0, X.a1, X.a2, X.a3, ul, ur, Y.a6⟩, true) := by
            obtain ⟨hu0, hall, hw0⟩ := gdN_all HGD.out.symm
            rw [HR.out, HSZ.out, HL.out]
            exact rst_back (gNo X.a0 X.a1 X.a2 X.a3) ul ur Y hall hw0 (by rw [HUL.out]; exact uL_between _) (by rw [HUR.out] at hu0 ⊢; exact uR_between _ hu0)
          have r0 : R.1.a0 = X.a0 := by rw [hrr]
          have r1 : R.1.a1 = X.a1 := by rw [hrr]
          have r2 : R.1.a2 = X.a2 := by rw [hrr]
          have r3 : R.1.a3 = X.a3 := by rw [hrr]
          have r4 : R.1.a4 = ul := by rw [hrr]
          have r5 : R.1.a5 = ur := by rw [hrr]
          have r6 : R.1.a6 = Y.a6 := by rw [hrr]
          obtain rfl : okR = true := by rw [HOK.out, hrr]
          rw [r0, r1, r2, r3, r4, r5, r6] at q15
          clear hrr hrst hrrst hidx
          go_wp2_with fail
          go_meet
          exact ⟨rfl, rfl⟩
      case rest =>
        obtain ⟨rfl, rfl⟩ := hcut
        clear q15 har hidx hrst hrrst
        go_upto_if 149 with fail
        go_cut [2] (fun v wx => wB = wx ∧ StrV v)
        case first =>
          have hss := bsl_of_ s
          by_cases h100 : 100 < s.size
          · have hsl := bsl_extract s.data.toList 0 100
            have HS := Lib.hid hss; have HSL := Lib.hid hsl
            clear hss hsl qX qY
            go_wp2_with fail
            go_meet
            exact ⟨rfl, _, by rw [HS.out, HSL.out], by simp; unfold maxLen; omega⟩
          · have HS := Lib.hid hss
            clear hss qX qY
            go_wp2_with fail
            go_meet
            exact ⟨rfl, s.data.toList, by rw [← HS.out], by rw [Array.length_toList]; exact hs⟩
        case rest =>
          obtain ⟨rfl, l2, rfl, hl2⟩ := hcut
          have hrst2 := fun w => rst_any Y X.a4 X.a5 sz l2 w HSZR.out hl2
          have hrrst2 := fun w => rrst_any Y X.a4 X.a5 sz l2 w HSZR.out hl2
          obtain ⟨R2, hR2⟩ : ∃ R2, R2 = rstR sz X.a4 X.a5 Y l2 := ⟨_, rfl⟩
          rw [← hR2] at hrst2 hrrst2
          unfold S7.cells at hrst2 hrrst2
          clear hR2
          obtain ⟨V, ok⟩ := R2
          obtain ⟨s2, hs2⟩ : ∃ s2, s2 = bsl l2 := ⟨_, rfl⟩
          rw [← hs2] at hrst2 hrrst2 ⊢
          clear hs2 hl2
          have hYB := hY1
          have hXB := hX1
          simp only at hrst2 hrrst2
          go_wp2_with fail
          refine wp_region_facts5 (xrF bX wB 27 X Y sz s2 V ok) noD (Gr wB) (by kernel_rfl) (by kernel_rfl) (by kernel_rfl) ?_ ((Gr.refl _).drew) ?_ ?_
          · intro j o ho ys zs w' hj he hF
            match j, ho, hj, hF with
            | 0, ho, hj, hF | 1, ho, hj, hF | 2, ho, hj, hF | 3, ho, hj, hF | 4, ho, hj, hF | 5, ho, hj, hF | 6, ho, hj, hF | 7, ho, hj, hF | 8, ho, hj, hF | 9, ho, hj, hF | 10, ho, hj, hF | 11, ho, hj, hF | 12, ho, hj, hF | 14, ho, hj, hF => simp only [xrF] at hF ⊢; rw [← hj]; exact hF
            | 13, ho, hj, hF => 
              simp at ho; subst ho
              have := he ⟨12, .data⟩ (by simp) rfl
              simp only [xrF] at hF ⊢; rw [← this]; exact hF
            | _ + 15, ho, _, _ => exact trivial
          · refine Steps2.cons1 1 rfl rfl ?_ (Steps2.cons1 2 rfl rfl ?_ (Steps2.cons1 3 rfl rfl ?_ (Steps2.cons1 4 rfl rfl ?_ (Steps2.cons1 5 rfl rfl ?_ (Steps2.cons1 6 rfl rfl ?_ (Steps2.cons1 7 rfl rfl ?_ (Steps2.cons1 8 rfl rfl ?_ (Steps2.cons1 9 rfl rfl ?_ (Steps2.cons1 10 rfl rfl ?_ (Steps2.cons1 11 rfl rfl ?_ (Steps2.cons1 12 rfl rfl ?_ (Steps2.cons1 13 rfl rfl ?_ (Steps2.cons1 14 rfl rfl ?_ (Steps2.cons1 15 rfl rfl ?_ (Steps2.nil)))))))))))))))
            · (intro L ys w' hB hD hP hn; simp only [LAll, Region.binds, forall_const, and_true, true_and] at hP)
              have q := cells7 (hB.blk hYB)
              intro K hK
              simp only [fillA]
              go_simp
              have h2 := hK (.agg #[.int .i64 Y.a0, .int .i64 Y.a1, .int .i64 Y.a2, .int .i64 Y.a3, .int .i64 Y.a4, .int .i64 Y.a5, .int .i64 Y.a6]) w' hB (setY_at ys 0 _) (fun j _ h => h) (fun j _ => ⟨fun _ => trivial, fun _ => trivial⟩)
              simp [fillA, Act.put] at h2
              exact h2
            · (intro L ys w' hB hD hP hn; simp only [LAll, Region.binds, forall_const, and_true, true_and] at hP)
              have f0 : ys 0 = _ := hD.fact 0 (by first | exact hP | exact hP.1 | exact hP.2.1 | exact hP.2.2.1 | exact hP.2.2.2.1 | exact hP.2.2.2.2 | exact hP.2.2.2.2.1 | exact hP.2 | exact hP.2.2 | exact hP.2.2.2)
              intro K hK
              simp only [fillA]
              go_simp
              refine (own10_any _ _ _ _ _ _ _ _).mono ?_
              rintro e w4 ⟨rfl, hg⟩
              have h2 := hK (.agg #[.int .i64 Y.a0, .int .i64 Y.a1, .int .i64 Y.a2, .int .i64 Y.a3, .int .i64 Y.a4, .int .i64 Y.a5, .int .i64 Y.a6]) w4 (hB.trans hg) (setY_at ys 1 _) (fun j _ h => h.gr hg) (fun j _ => ⟨fun _ => trivial, fun _ => trivial⟩)
              simp [fillA, Act.put, f0] at h2
              exact h2
            · (intro L ys w' hB hD hP hn; simp only [LAll, Region.binds, forall_const, and_true, true_and] at hP)
              intro K hK
              simp only [fillA]
              go_simp
              have h2 := hK (.pointer (some ⟨bX, 4, none⟩)) w' hB (setY_at ys 2 _) (fun j _ h => h) (fun j _ => ⟨fun _ => trivial, fun _ => trivial⟩)
              simp [fillA, Act.put] at h2
              exact h2
            · (intro L ys w' hB hD hP hn; simp only [LAll, Region.binds, forall_const, and_true, true_and] at hP)
              have f2 : ys 2 = _ := hD.fact 2 (by first | exact hP | exact hP.1 | exact hP.2.1 | exact hP.2.2.1 | exact hP.2.2.2.1 | exact hP.2.2.2.2 | exact hP.2.2.2.2.1 | exact hP.2 | exact hP.2.2 | exact hP.2.2.2)
              have q := cells7 (hB.blk hXB)
              intro K hK
              simp only [fillA, f2]
              go_simp
              have h2 := hK (.int .i64 X.a4) w' hB (setY_at ys 3 _) (fun j _ h => h) (fun j _ => ⟨fun _ => trivial, fun _ => trivial⟩)
              simp [fillA, Act.put, f2] at h2
              exact h2
            · (intro L ys w' hB hD hP hn; simp only [LAll, Region.binds, forall_const, and_true, true_and] at hP)
              intro K hK
              simp only [fillA]
              go_simp
              have h2 := hK (.pointer (some ⟨bX, 5, none⟩)) w' hB (setY_at ys 4 _) (fun j _ h => h) (fun j _ => ⟨fun _ => trivial, fun _ => trivial⟩)
              simp [fillA, Act.put] at h2
              exact h2
            · (intro L ys w' hB hD hP hn; simp only [LAll, Region.binds, forall_const, and_true, true_and] at hP)
              have f4 : ys 4 = _ := hD.fact 4 (by first | exact hP | exact hP.1 | exact hP.2.1 | exact hP.2.2.1 | exact hP.2.2.2.1 | exact hP.2.2.2.2 | exact hP.2.2.2.2.1 | exact hP.2 | exact hP.2.2 | exact hP.2.2.2)
              have q := cells7 (hB.blk hXB)
              intro K hK
              simp only [fillA, f4]
              go_simp
              have h2 := hK (.int .i64 X.a5) w' hB (setY_at ys 5 _) (fun j _ h => h) (fun j _ => ⟨fun _ => trivial, fun _ => trivial⟩)
              simp [fillA, Act.put, f4] at h2
              exact h2
            · (intro L ys w' hB hD hP hn; simp only [LAll, Region.binds, forall_const, and_true, true_and] at hP)
              intro K hK
              simp only [fillA]
              go_simp
              have h2 := hK (.int .u8 sz) w' hB (setY_at ys 6 _) (fun j _ h => h) (fun j _ => ⟨fun _ => trivial, fun _ => trivial⟩)
              simp [fillA, Act.put] at h2
              exact h2
            · (intro L ys w' hB hD hP hn; simp only [LAll, Region.binds, forall_const, and_true, true_and] at hP)
              intro K hK
              simp only [fillA]
              go_simp
              have h2 := hK (.string s2) w' hB (setY_at ys 7 _) (fun j _ h => h) (fun j _ => ⟨fun _ => trivial, fun _ => trivial⟩)
              simp [fillA, Act.put] at h2
              exact h2
            · (intro L ys w' hB hD hP hn; simp only [LAll, Region.binds, forall_const, and_true, true_and] at hP)
              have f1 : ys 1 = _ := hD.fact 1 (by first | exact hP | exact hP.1 | exact hP.2.1 | exact hP.2.2.1 | exact hP.2.2.2.1 | exact hP.2.2.2.2 | exact hP.2.2.2.2.1 | exact hP.2 | exact hP.2.2 | exact hP.2.2.2)
              have f3 : ys 3 = _ := hD.fact 3 (by first | exact hP | exact hP.1 | exact hP.2.1 | exact hP.2.2.1 | exact hP.2.2.2.1 | exact hP.2.2.2.2 | exact hP.2.2.2.2.1 | exact hP.2 | exact hP.2.2 | exact hP.2.2.2)
              have f5 : ys 5 = _ := hD.fact 5 (by first | exact hP | exact hP.1 | exact hP.2.1 | exact hP.2.2.1 | exact hP.2.2.2.1 | exact hP.2.2.2.2 | exact hP.2.2.2.2.1 | exact hP.2 | exact hP.2.2 | exact hP.2.2.2)
              have f6 : ys 6 = _ := hD.fact 6 (by first | exact hP | exact hP.1 | exact hP.2.1 | exact hP.2.2.1 | exact hP.2.2.2.1 | exact hP.2.2.2.2 | exact hP.2.2.2.2.1 | exact hP.2 | exact hP.2.2 | exact hP.2.2.2)
              have f7 : ys 7 = _ := hD.fact 7 (by first | exact hP | exact hP.1 | exact hP.2.1 | exact hP.2.2.1 | exact hP.2.2.2.1 | exact hP.2.2.2.2 | exact hP.2.2.2.2.1 | exact hP.2 | exact hP.2.2 | exact hP.2.2.2)
              intro K hK
              simp only [fillA]
              go_simp
              refine (hrst2 _).mono ?_
              rintro e w4 ⟨rfl, hg⟩
              have h2 := hK (.tuple #[.agg #[.int .i64 V.a0, .int .i64 V.a1, .int .i64 V.a2, .int .i64 V.a3, .int .i64 V.a4, .int .i64 V.a5, .int .i64 V.a6], .bool ok]) w4 (hB.trans hg) (setY_at ys 8 _) (fun j _ h => h.gr hg) (fun j _ => ⟨fun _ => trivial, fun _ => trivial⟩)
              simp [fillA, Act.put, f1, f3, f5, f6, f7] at h2
              exact h2
            · (intro L ys w' hB hD hP hn; simp only [LAll, Region.binds, forall_const, and_true, true_and] at hP)
              have f8 : ys 8 = _ := hD.fact 8 (by first | exact hP | exact hP.1 | exact hP.2.1 | exact hP.2.2.1 | exact hP.2.2.2.1 | exact hP.2.2.2.2 | exact hP.2.2.2.2.1 | exact hP.2 | exact hP.2.2 | exact hP.2.2.2)
              intro K hK
              simp only [fillA]
              go_simp
              have h2 := hK (.tuple #[.agg #[.int .i64 V.a0, .int .i64 V.a1, .int .i64 V.a2, .int .i64 V.a3, .int .i64 V.a4, .int .i64 V.a5, .int .i64 V.a6], .bool ok]) w' hB (setY_at ys 9 _) (fun j _ h => h) (fun j _ => ⟨fun _ => trivial, fun _ => trivial⟩)
              simp [fillA, Act.put, f8] at h2
              exact h2
            · (intro L ys w' hB hD hP hn; simp only [LAll, Region.binds, forall_const, and_true, true_and] at hP)
              have f9 : ys 9 = _ := hD.fact 9 (by first | exact hP | exact hP.1 | exact hP.2.1 | exact hP.2.2.1 | exact hP.2.2.2.1 | exact hP.2.2.2.2 | exact hP.2.2.2.2.1 | exact hP.2 | exact hP.2.2 | exact hP.2.2.2)
              intro K hK
              simp only [fillA]
              go_simp
              have h2 := hK (.agg #[.int .i64 V.a0, .int .i64 V.a1, .int .i64 V.a2, .int .i64 V.a3, .int .i64 V.a4, .int .i64 V.a5, .int .i64 V.a6]) w' hB (setY_at ys 10 _) (fun j _ h => h) (fun j _ => ⟨fun _ => trivial, fun _ => trivial⟩)
              simp [fillA, Act.put, f9] at h2
              exact h2
            · (intro L ys w' hB hD hP hn; simp only [LAll, Region.binds, forall_const, and_true, true_and] at hP)
              have f9 : ys 9 = _ := hD.fact 9 (by first | exact hP | exact hP.1 | exact hP.2.1 | exact hP.2.2.1 | exact hP.2.2.2.1 | exact hP.2.2.2.2 | exact hP.2.2.2.2.1 | exact hP.2 | exact hP.2.2 | exact hP.2.2.2)
              intro K hK
              simp only [fillA]
              go_simp
              have h2 := hK (.bool ok) w' hB (setY_at ys 11 _) (fun j _ h => h) (fun j _ => ⟨fun _ => trivial, fun _ => trivial⟩)
              simp [fillA, Act.put, f9] at h2
              exact h2
            · (intro L ys w' hB hD hP hn; simp only [LAll, Region.binds, forall_const, and_true, true_and] at hP)
              intro K hK
              simp only [fillA]
              go_simp
              have h2 := hK (.pointer (some ⟨w'.heap.size, 0, none⟩)) (w'.alloc (.cells #[.int .i64 0, .int .i64 0, .int .i64 0, .int .i64 0, .int .i64 0, .int .i64 0, .int .i64 0] 27)) (hB.alloc _) ⟨_, _, setY_at ys 12 _, hB.size, rfl, heap_alloc_new _ _⟩ (fun j _ h => h.gr ((Gr.refl _).alloc _)) (fun j _ => ⟨fun _ => trivial, fun _ => trivial⟩)
              simp [fillA, Act.put] at h2
              exact h2
            · (intro L ys w' hB hD hP hn; simp only [LAll, Region.binds, forall_const, and_true, true_and] at hP)
              have f10 : ys 10 = _ := hD.fact 10 (by first | exact hP | exact hP.1 | exact hP.2.1 | exact hP.2.2.1 | exact hP.2.2.2.1 | exact hP.2.2.2.2 | exact hP.2.2.2.2.1 | exact hP.2 | exact hP.2.2 | exact hP.2.2.2)
              obtain ⟨g, cs, hq, hge, hcs, hblk⟩ := hD.fact 12 (by first | exact hP | exact hP.1 | exact hP.2.1 | exact hP.2.2.1 | exact hP.2.2.2.1 | exact hP.2.2.2.2 | exact hP.2.2.2.2.1 | exact hP.2 | exact hP.2.2 | exact hP.2.2.2)
              have hs := setRow_heap w' g cs #[.int .i64 V.a0, .int .i64 V.a1, .int .i64 V.a2, .int .i64 V.a3, .int .i64 V.a4, .int .i64 V.a5, .int .i64 V.a6] 27 (0, 0) hblk
              have ho := fun k (hk : k ≠ g) => setRow_other w' g k #[.int .i64 V.a0, .int .i64 V.a1, .int .i64 V.a2, .int .i64 V.a3, .int .i64 V.a4, .int .i64 V.a5, .int .i64 V.a6] (by omega)
              intro K hK
              with_reducible refine wp_store_row 27 (.tmp 22) (.tmp 162) ?ho8 g #[.int .i64 V.a0, .int .i64 V.a1, .int .i64 V.a2, .int .i64 V.a3, .int .i64 V.a4, .int .i64 V.a5, .int .i64 V.a6] ?hx8 ?hy8 27 cs hblk ?hi8 ?hc8 ?h18 ?hh8
              case hc8 => exact hcs
              case ho8 => rfl
              case hx8 => simp [Act.eval, fillA, Act.put, hq]
              case hy8 => simp [Act.eval, fillA, Act.put, f10]
              case hi8 => kernel_rfl
              case h18 => simp [Value.oneCell']
              case hh8 => exact hK undef _ (setRow_gr hB hge) (xrF.at13 undef hq hge hs) (fun j hl h => h.set rfl hs ho (fun e => hn (e ▸ hl))) (fun j _ => ⟨fun _ => trivial, fun _ => trivial⟩)
            · (intro L ys w' hB hD hP hn; simp only [LAll, Region.binds, forall_const, and_true, true_and] at hP)
              have f11 : ys 11 = _ := hD.fact 11 (by first | exact hP | exact hP.1 | exact hP.2.1 | exact hP.2.2.1 | exact hP.2.2.2.1 | exact hP.2.2.2.2 | exact hP.2.2.2.2.1 | exact hP.2 | exact hP.2.2 | exact hP.2.2.2)
              intro K hK
              simp only [fillA]
              go_simp
              have h2 := hK (.bool ok) w' hB (setY_at ys 14 _) (fun j _ h => h) (fun j _ => ⟨fun _ => trivial, fun _ => trivial⟩)
              simp [fillA, Act.put, f11] at h2
              exact h2
          · intro ys w' hB hF _
            have f0 : ys 0 = _ := hF 0 (by decide)
            have f1 : ys 1 = _ := hF 1 (by decide)
            have f2 : ys 2 = _ := hF 2 (by decide)
            have f3 : ys 3 = _ := hF 3 (by decide)
            have f4 : ys 4 = _ := hF 4 (by decide)
            have f5 : ys 5 = _ := hF 5 (by decide)
            have f6 : ys 6 = _ := hF 6 (by decide)
            have f7 : ys 7 = _ := hF 7 (by decide)
            have f8 : ys 8 = _ := hF 8 (by decide)
            have f9 : ys 9 = _ := hF 9 (by decide)
            have f10 : ys 10 = _ := hF 10 (by decide)
            have f11 : ys 11 = _ := hF 11 (by decide)
            have f14 : ys 14 = _ := hF 14 (by decide)
            obtain ⟨p, f12, hpw, hpb⟩ := hF 13 (by decide)
            simp only [fillA, f0, f1, f2, f3, f4, f5, f6, f7, f8, f9, f10, f11, f14, f12]
            clear hF f0 f1 f2 f3 f4 f5 f6 f7 f8 f9 f10 f11 f14 f12
            have qY2 := cells7 (hB.blk hYB)
            have qX2 := cells7 (hB.blk hXB)
            clear hrst2
            go_wp2_with (go_at_call 24; (with_reducible refine (hrrst2 _).mono ?_); rintro e w20 ⟨rfl, hg20⟩)
            clear qY2 qX2
            obtain ⟨wE, hwE⟩ : ∃ wE, wE = w20.alloc (.cells #[.int .i64 V.a0, .int .i64 V.a1, .int .i64 V.a2, .int .i64 V.a3, .int .i64 V.a4, .int .i64 V.a5, .int .i64 V.a6] 24) := ⟨_, rfl⟩
            have hR8 := heap_alloc_new w20 (.cells #[.int .i64 V.a0, .int .i64 V.a1, .int .i64 V.a2, .int .i64 V.a3, .int .i64 V.a4, .int .i64 V.a5, .int .i64 V.a6] 24)
            have hgE : Gr w' wE := by rw [hwE]; exact hg20.trans ((Gr.refl _).alloc _)
            rw [← hwE] at hR8 ⊢
            have hR7 := hgE.blk hpb
            obtain ⟨b23, hb23⟩ : ∃ b, b = w20.heap.size := ⟨_, rfl⟩
            rw [← hb23] at hR8 ⊢
            clear hwE hb23 hg20
            have hgZ := (hgB1.trans hB).trans hgE
            have hS7 := fun (w9 : World) (hg : Gr wE w9) => Seven.of hR7 hg
            have hS8 := fun (w9 : World) (hg : Gr wE w9) => Seven.of hR8 hg
            unfold Seven at hS7 hS8
            have hrf := stEq_refl V.a0 V.a1 V.a2 V.a3 V.a4 V.a5 V.a6
            have hst := fun a0 a1 a2 a3 a4 a5 a6 b0 b1 b2 b3 b4 b5 b6 w => eq_st 24 (.inr rfl) a0 a1 a2 a3 a4 a5 a6 b0 b1 b2 b3 b4 b5 b6 w
            clear hrrst2 hB hgB1 hYB hXB hX1 hY1 hgAB
            go_region_held3 (fun w9 => Gr wE w9 ∧ (w9.cell? ⟨p, 0, none⟩ = some (.int .i64 V.a0) ∧ w9.cell? ⟨p, 1, none⟩ = some (.int .i64 V.a1) ∧ w9.cell? ⟨p, 2, none⟩ = some (.int .i64 V.a2) ∧ w9.cell? ⟨p, 3, none⟩ = some (.int .i64 V.a3) ∧ w9.cell? ⟨p, 4, none⟩ = some (.int .i64 V.a4) ∧ w9.cell? ⟨p, 5, none⟩ = some (.int .i64 V.a5) ∧ w9.cell? ⟨p, 6, none⟩ = some (.int .i64 V.a6)) ∧ (w9.cell? ⟨b23, 0, none⟩ = some (.int .i64 V.a0) ∧ w9.cell? ⟨b23, 1, none⟩ = some (.int .i64 V.a1) ∧ w9.cell? ⟨b23, 2, none⟩ = some (.int .i64 V.a2) ∧ w9.cell? ⟨b23, 3, none⟩ = some (.int .i64 V.a3) ∧ w9.cell? ⟨b23, 4, none⟩ = some (.int .i64 V.a4) ∧ w9.cell? ⟨b23, 5, none⟩ = some (.int .i64 V.a5) ∧ w9.cell? ⟨b23, 6, none⟩ = some (.int .i64 V.a6)))
              ((refine (fun hg => ⟨hg, hS7 _ hg, hS8 _ hg⟩) ?_; (repeat (first | with_reducible exact Gr.refl _ | with_reducible assumption | with_reducible refine Gr.setCell ?_ (by simp; try omega) _ | with_reducible refine Gr.alloc ?_ _ | with_reducible refine Gr.drew ?_ | with_reducible refine Gr.drewN ?_ _ | with_reducible refine Gr.trans ?_ (by assumption)))))
              (first | (go_at_call 19; refine (told10_any _ _ _ _ _ _ _ _).mono ?_; rintro e wF ⟨rfl, hgF⟩))
            go_wp2_with fail
            go_ret
            have hgF2 : Gr wE wF := ⟨hgF.os, hgF.tape, hgF.output, hgF.size, hgF.block⟩
            exact ⟨rfl, hgZ.trans hgF2⟩
end Go.Proofs.Ytomflpkokcldeaa
