/-
  An act done in both texts: law10's do, walked kind by kind.
-/
import Derived.Test.YtomflpkokcldeaaIsG
import Derived.Test.YtomflpkokcldeaaOrd3
import Derived.Test.YtomflpkokcldeaaPaR
namespace Go.Proofs.Ytomflpkokcldeaa
set_option linter.unusedSimpArgs false
set_option linter.unusedVariables false
open Go.RowKit
set_option linter.unusedVariables false

/-- A state's seven numbers. -/
structure S7 where
  a0 : Int
  a1 : Int
  a2 : Int
  a3 : Int
  a4 : Int
  a5 : Int
  a6 : Int
def S7.cells (X : S7) : Array Value := #[.int .i64 X.a0, .int .i64 X.a1, .int .i64 X.a2, .int .i64 X.a3, .int .i64 X.a4, .int .i64 X.a5, .int .i64 X.a6]
/-- Both states end the same, and the acts agree. -/
def DoIs (w : World) (X : S7) (e : Ending) (w' : World) : Prop := e = .returned (.tuple #[.agg X.cells, .agg X.cells, .bool true]) ∧ Gr w w'
def doS (k n : Int) (wide : Bool) (id : ByteArray) (cd : Int) (X : S7) : S7 :=
  if k = 1 then ⟨selI (desOk wide id n && decide (n = 0)) (findP wide id) X.a0, selI (desOk wide id n && decide (n = 1)) (findP wide id) X.a1, selI (desOk wide id n && decide (n = 2)) (findP wide id) X.a2, selI (desOk wide id n && decide (n = 3)) (findP wide id) X.a3, X.a4, X.a5, X.a6⟩
  else if k = 2 then { X with a4 := selI (between 0 3 n) n X.a4 }
  else if k = 3 then { X with a5 := selI (between 1 3 n) n X.a5 }
  else if k = 4 then { X with a6 := selI (between 2 3 n) n X.a6 }
  else if k = 5 then { X with a6 := selI (decide (cd % 128 < 32)) X.a6 0 }
  else X
/-- Two blocks of seven cells that are written; all else stays. -/
def BaseP (w0 : World) (p q : Nat) (w' : World) : Prop := Upd [p, q] w0 w' ∧ (∃ cs, cs.size = 7 ∧ w'.heap[p]? = some (.cells cs 27 (0, 0))) ∧ ∃ cs, cs.size = 7 ∧ w'.heap[q]? = some (.cells cs 24 (0, 0))
theorem BaseP.gr {w0 w w' : World} {p q : Nat} (h : BaseP w0 p q w) (hg : Gr w w') : BaseP w0 p q w' := by
  obtain ⟨h1, ⟨c1, e1, b1⟩, c2, e2, b2⟩ := h
  exact ⟨⟨hg.os.trans h1.os, hg.tape.trans h1.tape, hg.output.trans h1.output, Nat.le_trans h1.size hg.size, fun k hk hn => (hg.block k (Nat.lt_of_lt_of_le hk h1.size)).trans (h1.block k hk hn)⟩, ⟨c1, e1, hg.blk b1⟩, c2, e2, hg.blk b2⟩
theorem BaseP.old {w0 w : World} {p q k : Nat} {o : Obj} (h : BaseP w0 p q w) (hk : w0.heap[k]? = some o) (hp : k ≠ p) (hq : k ≠ q) : w.heap[k]? = some o :=
  (h.1.block k (Array.getElem?_eq_some_iff.1 hk).1 (by simp [hp, hq])).trans hk
theorem BaseP.setp {w0 w w' : World} {p q : Nat} {cs : Array Value} (h : BaseP w0 p q w) (hpq : p ≠ q) (hc : cs.size = 7) (hs : w'.heap[p]? = some (.cells cs 27 (0, 0))) (hu : Upd [p] w w') : BaseP w0 p q w' := by
  obtain ⟨h1, _, c2, e2, b2⟩ := h
  exact ⟨⟨hu.os.trans h1.os, hu.tape.trans h1.tape, hu.output.trans h1.output, Nat.le_trans h1.size hu.size, fun k hk hn => (hu.block k (Nat.lt_of_lt_of_le hk h1.size) (by simp at hn ⊢; exact hn.1)).trans (h1.block k hk hn)⟩, ⟨cs, hc, hs⟩, c2, e2, (hu.block q (Array.getElem?_eq_some_iff.1 b2).1 (by simp; exact fun e => hpq e.symm)).trans b2⟩
theorem BaseP.setq {w0 w w' : World} {p q : Nat} {cs : Array Value} (h : BaseP w0 p q w) (hpq : p ≠ q) (hc : cs.size = 7) (hs : w'.heap[q]? = some (.cells cs 24 (0, 0))) (hu : Upd [q] w w') : BaseP w0 p q w' := by
  obtain ⟨h1, ⟨c1, e1, b1⟩, _⟩ := h
  exact ⟨⟨hu.os.trans h1.os, hu.tape.trans h1.tape, hu.output.trans h1.output, Nat.le_trans h1.size hu.size, fun k hk hn => (hu.block k (Nat.lt_of_lt_of_le hk h1.size) (by simp at hn ⊢; exact hn.2)).trans (h1.block k hk hn)⟩, ⟨c1, e1, (hu.block p (Array.getElem?_eq_some_iff.1 b1).1 (by simp; exact hpq)).trans b1⟩, cs, hc, hs⟩
theorem setRow_upd {w : World} {g : Nat} {cs : Array Value} : Upd [g] w (w.setRow g cs) := ⟨rfl, rfl, rfl, by simp [World.setRow], fun k _ hk => setRow_other w g k cs (by simpa using hk)⟩
theorem do_blocks (w : World) (A B C D E : Array Value) (t1 t2 t3 t4 t5 : TypeId) :
    Gr w (((((w.alloc (.cells A t1)).alloc (.cells B t2)).alloc (.cells C t3)).alloc (.cells D t4)).alloc (.cells E t5)) ∧
    (((((w.alloc (.cells A t1)).alloc (.cells B t2)).alloc (.cells C t3)).alloc (.cells D t4)).alloc (.cells E t5)).heap[w.heap.size]? = some (.cells A t1 (0, 0)) ∧
    (((((w.alloc (.cells A t1)).alloc (.cells B t2)).alloc (.cells C t3)).alloc (.cells D t4)).alloc (.cells E t5)).heap[w.heap.size + 1]? = some (.cells B t2 (0, 0)) ∧
    (((((w.alloc (.cells A t1)).alloc (.cells B t2)).alloc (.cells C t3)).alloc (.cells D t4)).alloc (.cells E t5)).heap[w.heap.size + 2]? = some (.cells C t3 (0, 0)) ∧
    (((((w.alloc (.cells A t1)).alloc (.cells B t2)).alloc (.cells C t3)).alloc (.cells D t4)).alloc (.cells E t5)).heap[w.heap.size + 3]? = some (.cells D t4 (0, 0)) ∧
    (((((w.alloc (.cells A t1)).alloc (.cells B t2)).alloc (.cells C t3)).alloc (.cells D t4)).alloc (.cells E t5)).heap[w.heap.size + 4]? = some (.cells E t5 (0, 0)) := by
  refine ⟨(((((Gr.refl w).alloc _).alloc _).alloc _).alloc _).alloc _, ?_, ?_, ?_, ?_, ?_⟩
  · exact (((((Gr.refl _).alloc _).alloc _).alloc _).alloc _).blk (heap_alloc_new w _)
  · have := ((((Gr.refl _).alloc (.cells C t3)).alloc (.cells D t4)).alloc (.cells E t5)).blk (heap_alloc_new (w.alloc (.cells A t1)) (.cells B t2)); simpa using this
  · have := (((Gr.refl _).alloc (.cells D t4)).alloc (.cells E t5)).blk (heap_alloc_new ((w.alloc (.cells A t1)).alloc (.cells B t2)) (.cells C t3)); simpa using this
  · have := ((Gr.refl _).alloc (.cells E t5)).blk (heap_alloc_new (((w.alloc (.cells A t1)).alloc (.cells B t2)).alloc (.cells C t3)) (.cells D t4)); simpa using this
  · have := heap_alloc_new ((((w.alloc (.cells A t1)).alloc (.cells B t2)).alloc (.cells C t3)).alloc (.cells D t4)) (.cells E t5); simpa using this
theorem blk_lt0 {w : World} {j : Nat} {b} (h : w.heap[j]? = some b) : j < w.heap.size := (Array.getElem?_eq_some_iff.1 h).1
/-- What was made from w on may be written. -/
theorem BaseP.fin {w w0 w' : World} {p q : Nat} (h : BaseP w0 p q w') (hg : Gr w w0) (hp : w.heap.size ≤ p) (hq : w.heap.size ≤ q) : Gr w w' :=
  ⟨h.1.os.trans hg.os, h.1.tape.trans hg.tape, h.1.output.trans hg.output, Nat.le_trans hg.size h.1.size, fun k hk => (h.1.block k (Nat.lt_of_lt_of_le hk hg.size) (by simp; omega)).trans (hg.block k hk)⟩

def Fleft (p q b5 : Nat) (g0 g1 g2 g3 gl gr si n : Int) (wide : Bool) (id : ByteArray) (cd : Int) : Nat → Value → World → Prop
  | 0, v, _ => v = .agg #[.int .i64 g0, .int .i64 g1, .int .i64 g2, .int .i64 g3, .int .i64 gl, .int .i64 gr, .int .i64 si]
  | 1, v, _ => v = .pointer (some ⟨b5, 1, none⟩)
  | 2, v, _ => v = .int .i64 n
  | 3, v, _ => v = .agg #[.int .i64 g0, .int .i64 g1, .int .i64 g2, .int .i64 g3, .int .i64 (selI (between 0 3 n) n gl), .int .i64 gr, .int .i64 si]
  | 4, v, _ => v = .agg #[.int .i64 g0, .int .i64 g1, .int .i64 g2, .int .i64 g3, .int .i64 gl, .int .i64 gr, .int .i64 si]
  | 5, v, _ => v = .pointer (some ⟨b5, 1, none⟩)
  | 6, v, _ => v = .int .i64 n
  | 7, v, _ => v = .agg #[.int .i64 g0, .int .i64 g1, .int .i64 g2, .int .i64 g3, .int .i64 (selI (between 0 3 n) n gl), .int .i64 gr, .int .i64 si]
  | 8, _, w => w.heap[p]? = some (.cells #[.int .i64 g0, .int .i64 g1, .int .i64 g2, .int .i64 g3, .int .i64 (selI (between 0 3 n) n gl), .int .i64 gr, .int .i64 si] 27 (0, 0))
  | 9, _, w => w.heap[q]? = some (.cells #[.int .i64 g0, .int .i64 g1, .int .i64 g2, .int .i64 g3, .int .i64 (selI (between 0 3 n) n gl), .int .i64 gr, .int .i64 si] 24 (0, 0))
  | 10, v, _ => v = .bool true
  | _, _, _ => True
theorem Fleft.keep {p q b5 : Nat} {g0 g1 g2 g3 gl gr si n : Int} {wide : Bool} {id : ByteArray} {cd : Int} {j : Nat} {u : Value} {w w' : World} (h : Fleft p q b5 g0 g1 g2 g3 gl gr si n wide id cd j u w) (hp : j = 8 → w'.heap[p]? = w.heap[p]?) (hq : j = 9 → w'.heap[q]? = w.heap[q]?) : Fleft p q b5 g0 g1 g2 g3 gl gr si n wide id cd j u w' := by
  match j, h with
  | 0, h | 1, h | 2, h | 3, h | 4, h | 5, h | 6, h | 7, h | 10, h => exact h
  | 8, h => exact (hp rfl).trans h
  | 9, h => exact (hq rfl).trans h
  | _ + 11, _ => exact trivial
theorem Fleft.gr {p q b5 : Nat} {g0 g1 g2 g3 gl gr si n : Int} {wide : Bool} {id : ByteArray} {cd : Int} {j : Nat} {u : Value} {w w' : World} (h : Fleft p q b5 g0 g1 g2 g3 gl gr si n wide id cd j u w) (hg : Gr w w') : Fleft p q b5 g0 g1 g2 g3 gl gr si n wide id cd j u w' := by
  match j, h with
  | 0, h | 1, h | 2, h | 3, h | 4, h | 5, h | 6, h | 7, h | 10, h => exact h
  | 8, h => exact hg.blk h
  | 9, h => exact hg.blk h
  | _ + 11, _ => exact trivial
set_option maxRecDepth 100000 in
set_option maxHeartbeats 2000000 in
theorem do_left (g0 g1 g2 g3 gl gr si n : Int) (wide : Bool) (id : ByteArray) (cd : Int) (w : World) (hcd : 0 ≤ cd ∧ cd < 256) :
    Calls Try.prog 18 #[.agg #[.int .i64 g0, .int .i64 g1, .int .i64 g2, .int .i64 g3, .int .i64 gl, .int .i64 gr, .int .i64 si], .agg #[.int .i64 g0, .int .i64 g1, .int .i64 g2, .int .i64 g3, .int .i64 gl, .int .i64 gr, .int .i64 si], .agg #[.int .i64 2, .int .i64 n, .bool wide, .string id, .int .u8 cd]] w (DoIs w ⟨g0, g1, g2, g3, (selI (between 0 3 n) n gl), gr, si⟩) := by
  go_enter Try.func18, Try.ntmps18
  go_wp2_with fail
  have hbl := do_blocks w #[.int .i64 g0, .int .i64 g1, .int .i64 g2, .int .i64 g3, .int .i64 gl, .int .i64 gr, .int .i64 si] #[.int .i64 g0, .int .i64 g1, .int .i64 g2, .int .i64 g3, .int .i64 gl, .int .i64 gr, .int .i64 si] #[.int .i64 2, .int .i64 n, .bool wide, .string id, .int .u8 cd] #[.int .i64 0, .int .i64 0, .int .i64 0, .int .i64 0, .int .i64 0, .int .i64 0, .int .i64 0] #[.int .i64 0, .int .i64 0, .int .i64 0, .int .i64 0, .int .i64 0, .int .i64 0, .int .i64 0] 27 24 46 27 24
  obtain ⟨w0, hw0e⟩ : ∃ w0, w0 = (((((w.alloc (.cells #[.int .i64 g0, .int .i64 g1, .int .i64 g2, .int .i64 g3, .int .i64 gl, .int .i64 gr, .int .i64 si] 27)).alloc (.cells #[.int .i64 g0, .int .i64 g1, .int .i64 g2, .int .i64 g3, .int .i64 gl, .int .i64 gr, .int .i64 si] 24)).alloc (.cells #[.int .i64 2, .int .i64 n, .bool wide, .string id, .int .u8 cd] 46)).alloc (.cells #[.int .i64 0, .int .i64 0, .int .i64 0, .int .i64 0, .int .i64 0, .int .i64 0, .int .i64 0] 27)).alloc (.cells #[.int .i64 0, .int .i64 0, .int .i64 0, .int .i64 0, .int .i64 0, .int .i64 0, .int .i64 0] 24)) := ⟨_, rfl⟩
  rw [← hw0e] at hbl ⊢
  clear hw0e
  obtain ⟨hgw, h3, h4, h5, h6, h7⟩ := hbl
  obtain ⟨s0, hs0⟩ : ∃ s0, s0 = w.heap.size := ⟨_, rfl⟩
  have hs1 : w.heap.size ≤ s0 := by omega
  rw [← hs0] at h3 h4 h5 h6 h7 ⊢
  clear hs0
  have hB0 : BaseP w0 (s0 + 3) (s0 + 4) w0 := ⟨⟨rfl, rfl, rfl, Nat.le_refl _, fun _ _ _ => rfl⟩, ⟨_, rfl, h6⟩, _, rfl, h7⟩
  have hpq : s0 + 3 ≠ s0 + 4 := by omega
  refine wp_region_facts3 (Fleft (s0 + 3) (s0 + 4) (s0 + 2) g0 g1 g2 g3 gl gr si n wide id cd) (BaseP w0 (s0 + 3) (s0 + 4)) (by kernel_rfl) (by kernel_rfl) (by kernel_rfl) (hB0.gr ((Gr.refl _).drew)) ?_ ?_
  · refine Steps.cons1 1 rfl rfl ?_ (Steps.cons1 2 rfl rfl ?_ (Steps.cons1 3 rfl rfl ?_ (Steps.cons1 4 rfl rfl ?_ (Steps.cons1 5 rfl rfl ?_ (Steps.cons1 6 rfl rfl ?_ (Steps.cons1 7 rfl rfl ?_ (Steps.cons1 8 rfl rfl ?_ (Steps.cons1 9 rfl rfl ?_ (Steps.cons1 10 rfl rfl ?_ (Steps.cons1 11 rfl rfl ?_ (Steps.nil)))))))))))
    · (intro ys w' hB hP; simp only [Preds, Region.binds, Fleft, forall_const, and_true, true_and] at hP)
      have c7 := cells7 (hB.old h3 (by omega) (by omega))
      intro K hK
      simp only [fillA]
      go_simp
      have h2 := hK _ w' hB rfl (fun j u _ h => h)
      simp [fillA, Act.put, hP] at h2
      exact h2
    · (intro ys w' hB hP K hK; simp only [Preds, Region.binds, Fleft, forall_const, and_true, true_and] at hP; simp only [fillA]; go_simp; (have h2 := fun v => hK v w' hB); simp only [Fleft, forall_eq] at h2; (have h2 := h2 (fun _ _ _ h => h)); simp [fillA, Act.put, hP] at h2; exact h2)
    · (intro ys w' hB hP; simp only [Preds, Region.binds, Fleft, forall_const, and_true, true_and] at hP)
      have c7 := cells5 (hB.old h5 (by omega) (by omega))
      intro K hK
      simp only [fillA]
      go_simp
      have h2 := hK _ w' hB rfl (fun j u _ h => h)
      simp [fillA, Act.put, hP] at h2
      exact h2
    · (intro ys w' hB hP; simp only [Preds, Region.binds, Fleft, forall_const, and_true, true_and] at hP)
      intro K hK
      simp only [fillA]
      go_simp
      refine (left_any _ _ _ _ _ _ _ _ _).mono ?_
      rintro e w4 ⟨rfl, hg⟩
      have h2 := hK _ w4 (hB.gr hg) rfl (fun j u _ h => h.gr hg)
      simp [fillA, Act.put, hP] at h2
      exact h2
    · (intro ys w' hB hP; simp only [Preds, Region.binds, Fleft, forall_const, and_true, true_and] at hP)
      have c7 := cells7 (hB.old h4 (by omega) (by omega))
      intro K hK
      simp only [fillA]
      go_simp
      have h2 := hK _ w' hB rfl (fun j u _ h => h)
      simp [fillA, Act.put, hP] at h2
      exact h2
    · (intro ys w' hB hP K hK; simp only [Preds, Region.binds, Fleft, forall_const, and_true, true_and] at hP; simp only [fillA]; go_simp; (have h2 := fun v => hK v w' hB); simp only [Fleft, forall_eq] at h2; (have h2 := h2 (fun _ _ _ h => h)); simp [fillA, Act.put, hP] at h2; exact h2)
    · (intro ys w' hB hP; simp only [Preds, Region.binds, Fleft, forall_const, and_true, true_and] at hP)
      have c7 := cells5 (hB.old h5 (by omega) (by omega))
      intro K hK
      simp only [fillA]
      go_simp
      have h2 := hK _ w' hB rfl (fun j u _ h => h)
      simp [fillA, Act.put, hP] at h2
      exact h2
    · (intro ys w' hB hP; simp only [Preds, Region.binds, Fleft, forall_const, and_true, true_and] at hP)
      intro K hK
      simp only [fillA]
      go_simp
      refine (invl_any _ _ _ _ _ _ _ _ _).mono ?_
      rintro e w4 ⟨rfl, hg⟩
      have h2 := hK _ w4 (hB.gr hg) rfl (fun j u _ h => h.gr hg)
      simp [fillA, Act.put, hP] at h2
      exact h2
    · (intro ys w' hB hP; simp only [Preds, Region.binds, Fleft, forall_const, and_true, true_and] at hP)
      obtain ⟨cs, hcs, hblk⟩ := hB.2.1
      have hv : ys 3 = .agg #[.int .i64 g0, .int .i64 g1, .int .i64 g2, .int .i64 g3, .int .i64 (selI (between 0 3 n) n gl), .int .i64 gr, .int .i64 si] := by simp [hP]
      have hs := setRow_heap w' (s0 + 3) cs #[.int .i64 g0, .int .i64 g1, .int .i64 g2, .int .i64 g3, .int .i64 (selI (between 0 3 n) n gl), .int .i64 gr, .int .i64 si] 27 (0, 0) hblk
      have hB2 := hB.setp hpq rfl hs setRow_upd
      intro K hK
      simp only [fillA]
      with_reducible refine wp_store_row 27 (.tmp 6) (.tmp 53) ?ho8 (s0 + 3) #[.int .i64 g0, .int .i64 g1, .int .i64 g2, .int .i64 g3, .int .i64 (selI (between 0 3 n) n gl), .int .i64 gr, .int .i64 si] ?hx8 ?hy8 27 cs hblk ?hi8 ?hc8 ?h18 ?hh8
      case ho8 => rfl
      case hx8 => simp [Act.eval, Act.put]
      case hy8 => simp [Act.eval, Act.put, hv]
      case hi8 => kernel_rfl
      case hc8 => exact hcs
      case h18 => simp [Value.oneCell']
      case hh8 =>
        have h2 := hK undef (w'.setRow (s0 + 3) #[.int .i64 g0, .int .i64 g1, .int .i64 g2, .int .i64 g3, .int .i64 (selI (between 0 3 n) n gl), .int .i64 gr, .int .i64 si]) hB2 hs (fun j u hj h => h.keep (fun e => absurd e hj) (fun e => setRow_other _ _ _ _ hpq.symm))
        exact h2
    · (intro ys w' hB hP; simp only [Preds, Region.binds, Fleft, forall_const, and_true, true_and] at hP)
      obtain ⟨cs, hcs, hblk⟩ := hB.2.2
      have hv : ys 7 = .agg #[.int .i64 g0, .int .i64 g1, .int .i64 g2, .int .i64 g3, .int .i64 (selI (between 0 3 n) n gl), .int .i64 gr, .int .i64 si] := by simp [hP]
      have hs := setRow_heap w' (s0 + 4) cs #[.int .i64 g0, .int .i64 g1, .int .i64 g2, .int .i64 g3, .int .i64 (selI (between 0 3 n) n gl), .int .i64 gr, .int .i64 si] 24 (0, 0) hblk
      have hB2 := hB.setq hpq rfl hs setRow_upd
      intro K hK
      simp only [fillA]
      with_reducible refine wp_store_row 24 (.tmp 7) (.tmp 57) ?ho9 (s0 + 4) #[.int .i64 g0, .int .i64 g1, .int .i64 g2, .int .i64 g3, .int .i64 (selI (between 0 3 n) n gl), .int .i64 gr, .int .i64 si] ?hx9 ?hy9 24 cs hblk ?hi9 ?hc9 ?h19 ?hh9
      case ho9 => rfl
      case hx9 => simp [Act.eval, Act.put]
      case hy9 => simp [Act.eval, Act.put, hv]
      case hi9 => kernel_rfl
      case hc9 => exact hcs
      case h19 => simp [Value.oneCell']
      case hh9 =>
        have h2 := hK undef (w'.setRow (s0 + 4) #[.int .i64 g0, .int .i64 g1, .int .i64 g2, .int .i64 g3, .int .i64 (selI (between 0 3 n) n gl), .int .i64 gr, .int .i64 si]) hB2 hs (fun j u hj h => h.keep (fun e => setRow_other _ _ _ _ hpq) (fun e => absurd e hj))
        exact h2
    · (intro ys w' hB hP K hK; simp only [Preds, Region.binds, Fleft, forall_const, and_true, true_and] at hP; simp only [fillA]; go_simp; (have h2 := fun v => hK v w' hB); simp only [Fleft, forall_eq] at h2; (have h2 := h2 (fun _ _ _ h => h)); simp [fillA, Act.put, hP] at h2; exact h2)
  · intro ys w' hB hF
    have f0 : ys 0 = _ := hF 0 (by decide)
    have f1 : ys 1 = _ := hF 1 (by decide)
    have f2 : ys 2 = _ := hF 2 (by decide)
    have f3 : ys 3 = _ := hF 3 (by decide)
    have f4 : ys 4 = _ := hF 4 (by decide)
    have f5 : ys 5 = _ := hF 5 (by decide)
    have f6 : ys 6 = _ := hF 6 (by decide)
    have f7 : ys 7 = _ := hF 7 (by decide)
    have f8 : _ = _ := hF 8 (by decide)
    have f9 : _ = _ := hF 9 (by decide)
    have f10 : ys 10 = _ := hF 10 (by decide)
    clear hF
    have r1 := cells7 f8
    have r2 := cells7 f9
    simp only [fillA, f0, f1, f2, f3, f4, f5, f6, f7, f10]
    clear f0 f1 f2 f3 f4 f5 f6 f7 f8 f9 f10
    go_wp2_with fail
    exact bodyPost_ret (v := .tuple #[.agg #[.int .i64 g0, .int .i64 g1, .int .i64 g2, .int .i64 g3, .int .i64 (selI (between 0 3 n) n gl), .int .i64 gr, .int .i64 si], .agg #[.int .i64 g0, .int .i64 g1, .int .i64 g2, .int .i64 g3, .int .i64 (selI (between 0 3 n) n gl), .int .i64 gr, .int .i64 si], .bool true]) (by simp [results, Try.results18, go_sem, *]) rfl ⟨rfl, hB.fin hgw (by omega) (by omega)⟩

def Fright (p q b5 : Nat) (g0 g1 g2 g3 gl gr si n : Int) (wide : Bool) (id : ByteArray) (cd : Int) : Nat → Value → World → Prop
  | 0, v, _ => v = .agg #[.int .i64 g0, .int .i64 g1, .int .i64 g2, .int .i64 g3, .int .i64 gl, .int .i64 gr, .int .i64 si]
  | 1, v, _ => v = .pointer (some ⟨b5, 1, none⟩)
  | 2, v, _ => v = .int .i64 n
  | 3, v, _ => v = .agg #[.int .i64 g0, .int .i64 g1, .int .i64 g2, .int .i64 g3, .int .i64 gl, .int .i64 (selI (between 1 3 n) n gr), .int .i64 si]
  | 4, v, _ => v = .agg #[.int .i64 g0, .int .i64 g1, .int .i64 g2, .int .i64 g3, .int .i64 gl, .int .i64 gr, .int .i64 si]
  | 5, v, _ => v = .pointer (some ⟨b5, 1, none⟩)
  | 6, v, _ => v = .int .i64 n
  | 7, v, _ => v = .agg #[.int .i64 g0, .int .i64 g1, .int .i64 g2, .int .i64 g3, .int .i64 gl, .int .i64 (selI (between 1 3 n) n gr), .int .i64 si]
  | 8, _, w => w.heap[p]? = some (.cells #[.int .i64 g0, .int .i64 g1, .int .i64 g2, .int .i64 g3, .int .i64 gl, .int .i64 (selI (between 1 3 n) n gr), .int .i64 si] 27 (0, 0))
  | 9, _, w => w.heap[q]? = some (.cells #[.int .i64 g0, .int .i64 g1, .int .i64 g2, .int .i64 g3, .int .i64 gl, .int .i64 (selI (between 1 3 n) n gr), .int .i64 si] 24 (0, 0))
  | 10, v, _ => v = .bool true
  | _, _, _ => True
theorem Fright.keep {p q b5 : Nat} {g0 g1 g2 g3 gl gr si n : Int} {wide : Bool} {id : ByteArray} {cd : Int} {j : Nat} {u : Value} {w w' : World} (h : Fright p q b5 g0 g1 g2 g3 gl gr si n wide id cd j u w) (hp : j = 8 → w'.heap[p]? = w.heap[p]?) (hq : j = 9 → w'.heap[q]? = w.heap[q]?) : Fright p q b5 g0 g1 g2 g3 gl gr si n wide id cd j u w' := by
  match j, h with
  | 0, h | 1, h | 2, h | 3, h | 4, h | 5, h | 6, h | 7, h | 10, h => exact h
  | 8, h => exact (hp rfl).trans h
  | 9, h => exact (hq rfl).trans h
  | _ + 11, _ => exact trivial
theorem Fright.gr {p q b5 : Nat} {g0 g1 g2 g3 gl gr si n : Int} {wide : Bool} {id : ByteArray} {cd : Int} {j : Nat} {u : Value} {w w' : World} (h : Fright p q b5 g0 g1 g2 g3 gl gr si n wide id cd j u w) (hg : Gr w w') : Fright p q b5 g0 g1 g2 g3 gl gr si n wide id cd j u w' := by
  match j, h with
  | 0, h | 1, h | 2, h | 3, h | 4, h | 5, h | 6, h | 7, h | 10, h => exact h
  | 8, h => exact hg.blk h
  | 9, h => exact hg.blk h
  | _ + 11, _ => exact trivial
set_option maxRecDepth 100000 in
set_option maxHeartbeats 2000000 in
theorem do_right (g0 g1 g2 g3 gl gr si n : Int) (wide : Bool) (id : ByteArray) (cd : Int) (w : World) (hcd : 0 ≤ cd ∧ cd < 256) :
    Calls Try.prog 18 #[.agg #[.int .i64 g0, .int .i64 g1, .int .i64 g2, .int .i64 g3, .int .i64 gl, .int .i64 gr, .int .i64 si], .agg #[.int .i64 g0, .int .i64 g1, .int .i64 g2, .int .i64 g3, .int .i64 gl, .int .i64 gr, .int .i64 si], .agg #[.int .i64 3, .int .i64 n, .bool wide, .string id, .int .u8 cd]] w (DoIs w ⟨g0, g1, g2, g3, gl, (selI (between 1 3 n) n gr), si⟩) := by
  go_enter Try.func18, Try.ntmps18
  go_wp2_with fail
  have hbl := do_blocks w #[.int .i64 g0, .int .i64 g1, .int .i64 g2, .int .i64 g3, .int .i64 gl, .int .i64 gr, .int .i64 si] #[.int .i64 g0, .int .i64 g1, .int .i64 g2, .int .i64 g3, .int .i64 gl, .int .i64 gr, .int .i64 si] #[.int .i64 3, .int .i64 n, .bool wide, .string id, .int .u8 cd] #[.int .i64 0, .int .i64 0, .int .i64 0, .int .i64 0, .int .i64 0, .int .i64 0, .int .i64 0] #[.int .i64 0, .int .i64 0, .int .i64 0, .int .i64 0, .int .i64 0, .int .i64 0, .int .i64 0] 27 24 46 27 24
  obtain ⟨w0, hw0e⟩ : ∃ w0, w0 = (((((w.alloc (.cells #[.int .i64 g0, .int .i64 g1, .int .i64 g2, .int .i64 g3, .int .i64 gl, .int .i64 gr, .int .i64 si] 27)).alloc (.cells #[.int .i64 g0, .int .i64 g1, .int .i64 g2, .int .i64 g3, .int .i64 gl, .int .i64 gr, .int .i64 si] 24)).alloc (.cells #[.int .i64 3, .int .i64 n, .bool wide, .string id, .int .u8 cd] 46)).alloc (.cells #[.int .i64 0, .int .i64 0, .int .i64 0, .int .i64 0, .int .i64 0, .int .i64 0, .int .i64 0] 27)).alloc (.cells #[.int .i64 0, .int .i64 0, .int .i64 0, .int .i64 0, .int .i64 0, .int .i64 0, .int .i64 0] 24)) := ⟨_, rfl⟩
  rw [← hw0e] at hbl ⊢
  clear hw0e
  obtain ⟨hgw, h3, h4, h5, h6, h7⟩ := hbl
  obtain ⟨s0, hs0⟩ : ∃ s0, s0 = w.heap.size := ⟨_, rfl⟩
  have hs1 : w.heap.size ≤ s0 := by omega
  rw [← hs0] at h3 h4 h5 h6 h7 ⊢
  clear hs0
  have hB0 : BaseP w0 (s0 + 3) (s0 + 4) w0 := ⟨⟨rfl, rfl, rfl, Nat.le_refl _, fun _ _ _ => rfl⟩, ⟨_, rfl, h6⟩, _, rfl, h7⟩
  have hpq : s0 + 3 ≠ s0 + 4 := by omega
  refine wp_region_facts3 (Fright (s0 + 3) (s0 + 4) (s0 + 2) g0 g1 g2 g3 gl gr si n wide id cd) (BaseP w0 (s0 + 3) (s0 + 4)) (by kernel_rfl) (by kernel_rfl) (by kernel_rfl) (hB0.gr ((Gr.refl _).drew)) ?_ ?_
  · refine Steps.cons1 1 rfl rfl ?_ (Steps.cons1 2 rfl rfl ?_ (Steps.cons1 3 rfl rfl ?_ (Steps.cons1 4 rfl rfl ?_ (Steps.cons1 5 rfl rfl ?_ (Steps.cons1 6 rfl rfl ?_ (Steps.cons1 7 rfl rfl ?_ (Steps.cons1 8 rfl rfl ?_ (Steps.cons1 9 rfl rfl ?_ (Steps.cons1 10 rfl rfl ?_ (Steps.cons1 11 rfl rfl ?_ (Steps.nil)))))))))))
    · (intro ys w' hB hP; simp only [Preds, Region.binds, Fright, forall_const, and_true, true_and] at hP)
      have c7 := cells7 (hB.old h3 (by omega) (by omega))
      intro K hK
      simp only [fillA]
      go_simp
      have h2 := hK _ w' hB rfl (fun j u _ h => h)
      simp [fillA, Act.put, hP] at h2
      exact h2
    · (intro ys w' hB hP K hK; simp only [Preds, Region.binds, Fright, forall_const, and_true, true_and] at hP; simp only [fillA]; go_simp; (have h2 := fun v => hK v w' hB); simp only [Fright, forall_eq] at h2; (have h2 := h2 (fun _ _ _ h => h)); simp [fillA, Act.put, hP] at h2; exact h2)
    · (intro ys w' hB hP; simp only [Preds, Region.binds, Fright, forall_const, and_true, true_and] at hP)
      have c7 := cells5 (hB.old h5 (by omega) (by omega))
      intro K hK
      simp only [fillA]
      go_simp
      have h2 := hK _ w' hB rfl (fun j u _ h => h)
      simp [fillA, Act.put, hP] at h2
      exact h2
    · (intro ys w' hB hP; simp only [Preds, Region.binds, Fright, forall_const, and_true, true_and] at hP)
      intro K hK
      simp only [fillA]
      go_simp
      refine (right_any _ _ _ _ _ _ _ _ _).mono ?_
      rintro e w4 ⟨rfl, hg⟩
      have h2 := hK _ w4 (hB.gr hg) rfl (fun j u _ h => h.gr hg)
      simp [fillA, Act.put, hP] at h2
      exact h2
    · (intro ys w' hB hP; simp only [Preds, Region.binds, Fright, forall_const, and_true, true_and] at hP)
      have c7 := cells7 (hB.old h4 (by omega) (by omega))
      intro K hK
      simp only [fillA]
      go_simp
      have h2 := hK _ w' hB rfl (fun j u _ h => h)
      simp [fillA, Act.put, hP] at h2
      exact h2
    · (intro ys w' hB hP K hK; simp only [Preds, Region.binds, Fright, forall_const, and_true, true_and] at hP; simp only [fillA]; go_simp; (have h2 := fun v => hK v w' hB); simp only [Fright, forall_eq] at h2; (have h2 := h2 (fun _ _ _ h => h)); simp [fillA, Act.put, hP] at h2; exact h2)
    · (intro ys w' hB hP; simp only [Preds, Region.binds, Fright, forall_const, and_true, true_and] at hP)
      have c7 := cells5 (hB.old h5 (by omega) (by omega))
      intro K hK
      simp only [fillA]
      go_simp
      have h2 := hK _ w' hB rfl (fun j u _ h => h)
      simp [fillA, Act.put, hP] at h2
      exact h2
    · (intro ys w' hB hP; simp only [Preds, Region.binds, Fright, forall_const, and_true, true_and] at hP)
      intro K hK
      simp only [fillA]
      go_simp
      refine (invr_any _ _ _ _ _ _ _ _ _).mono ?_
      rintro e w4 ⟨rfl, hg⟩
      have h2 := hK _ w4 (hB.gr hg) rfl (fun j u _ h => h.gr hg)
      simp [fillA, Act.put, hP] at h2
      exact h2
    · (intro ys w' hB hP; simp only [Preds, Region.binds, Fright, forall_const, and_true, true_and] at hP)
      obtain ⟨cs, hcs, hblk⟩ := hB.2.1
      have hv : ys 3 = .agg #[.int .i64 g0, .int .i64 g1, .int .i64 g2, .int .i64 g3, .int .i64 gl, .int .i64 (selI (between 1 3 n) n gr), .int .i64 si] := by simp [hP]
      have hs := setRow_heap w' (s0 + 3) cs #[.int .i64 g0, .int .i64 g1, .int .i64 g2, .int .i64 g3, .int .i64 gl, .int .i64 (selI (between 1 3 n) n gr), .int .i64 si] 27 (0, 0) hblk
      have hB2 := hB.setp hpq rfl hs setRow_upd
      intro K hK
      simp only [fillA]
      with_reducible refine wp_store_row 27 (.tmp 6) (.tmp 63) ?ho8 (s0 + 3) #[.int .i64 g0, .int .i64 g1, .int .i64 g2, .int .i64 g3, .int .i64 gl, .int .i64 (selI (between 1 3 n) n gr), .int .i64 si] ?hx8 ?hy8 27 cs hblk ?hi8 ?hc8 ?h18 ?hh8
      case ho8 => rfl
      case hx8 => simp [Act.eval, Act.put]
      case hy8 => simp [Act.eval, Act.put, hv]
      case hi8 => kernel_rfl
      case hc8 => exact hcs
      case h18 => simp [Value.oneCell']
      case hh8 =>
        have h2 := hK undef (w'.setRow (s0 + 3) #[.int .i64 g0, .int .i64 g1, .int .i64 g2, .int .i64 g3, .int .i64 gl, .int .i64 (selI (between 1 3 n) n gr), .int .i64 si]) hB2 hs (fun j u hj h => h.keep (fun e => absurd e hj) (fun e => setRow_other _ _ _ _ hpq.symm))
        exact h2
    · (intro ys w' hB hP; simp only [Preds, Region.binds, Fright, forall_const, and_true, true_and] at hP)
      obtain ⟨cs, hcs, hblk⟩ := hB.2.2
      have hv : ys 7 = .agg #[.int .i64 g0, .int .i64 g1, .int .i64 g2, .int .i64 g3, .int .i64 gl, .int .i64 (selI (between 1 3 n) n gr), .int .i64 si] := by simp [hP]
      have hs := setRow_heap w' (s0 + 4) cs #[.int .i64 g0, .int .i64 g1, .int .i64 g2, .int .i64 g3, .int .i64 gl, .int .i64 (selI (between 1 3 n) n gr), .int .i64 si] 24 (0, 0) hblk
      have hB2 := hB.setq hpq rfl hs setRow_upd
      intro K hK
      simp only [fillA]
      with_reducible refine wp_store_row 24 (.tmp 7) (.tmp 67) ?ho9 (s0 + 4) #[.int .i64 g0, .int .i64 g1, .int .i64 g2, .int .i64 g3, .int .i64 gl, .int .i64 (selI (between 1 3 n) n gr), .int .i64 si] ?hx9 ?hy9 24 cs hblk ?hi9 ?hc9 ?h19 ?hh9
      case ho9 => rfl
      case hx9 => simp [Act.eval, Act.put]
      case hy9 => simp [Act.eval, Act.put, hv]
      case hi9 => kernel_rfl
      case hc9 => exact hcs
      case h19 => simp [Value.oneCell']
      case hh9 =>
        have h2 := hK undef (w'.setRow (s0 + 4) #[.int .i64 g0, .int .i64 g1, .int .i64 g2, .int .i64 g3, .int .i64 gl, .int .i64 (selI (between 1 3 n) n gr), .int .i64 si]) hB2 hs (fun j u hj h => h.keep (fun e => setRow_other _ _ _ _ hpq) (fun e => absurd e hj))
        exact h2
    · (intro ys w' hB hP K hK; simp only [Preds, Region.binds, Fright, forall_const, and_true, true_and] at hP; simp only [fillA]; go_simp; (have h2 := fun v => hK v w' hB); simp only [Fright, forall_eq] at h2; (have h2 := h2 (fun _ _ _ h => h)); simp [fillA, Act.put, hP] at h2; exact h2)
  · intro ys w' hB hF
    have f0 : ys 0 = _ := hF 0 (by decide)
    have f1 : ys 1 = _ := hF 1 (by decide)
    have f2 : ys 2 = _ := hF 2 (by decide)
    have f3 : ys 3 = _ := hF 3 (by decide)
    have f4 : ys 4 = _ := hF 4 (by decide)
    have f5 : ys 5 = _ := hF 5 (by decide)
    have f6 : ys 6 = _ := hF 6 (by decide)
    have f7 : ys 7 = _ := hF 7 (by decide)
    have f8 : _ = _ := hF 8 (by decide)
    have f9 : _ = _ := hF 9 (by decide)
    have f10 : ys 10 = _ := hF 10 (by decide)
    clear hF
    have r1 := cells7 f8
    have r2 := cells7 f9
    simp only [fillA, f0, f1, f2, f3, f4, f5, f6, f7, f10]
    clear f0 f1 f2 f3 f4 f5 f6 f7 f8 f9 f10
    go_wp2_with fail
    exact bodyPost_ret (v := .tuple #[.agg #[.int .i64 g0, .int .i64 g1, .int .i64 g2, .int .i64 g3, .int .i64 gl, .int .i64 (selI (between 1 3 n) n gr), .int .i64 si], .agg #[.int .i64 g0, .int .i64 g1, .int .i64 g2, .int .i64 g3, .int .i64 gl, .int .i64 (selI (between 1 3 n) n gr), .int .i64 si], .bool true]) (by simp [results, Try.results18, go_sem, *]) rfl ⟨rfl, hB.fin hgw (by omega) (by omega)⟩

def Fonce (p q b5 : Nat) (g0 g1 g2 g3 gl gr si n : Int) (wide : Bool) (id : ByteArray) (cd : Int) : Nat → Value → World → Prop
  | 0, v, _ => v = .agg #[.int .i64 g0, .int .i64 g1, .int .i64 g2, .int .i64 g3, .int .i64 gl, .int .i64 gr, .int .i64 si]
  | 1, v, _ => v = .pointer (some ⟨b5, 1, none⟩)
  | 2, v, _ => v = .int .i64 n
  | 3, v, _ => v = .agg #[.int .i64 g0, .int .i64 g1, .int .i64 g2, .int .i64 g3, .int .i64 gl, .int .i64 gr, .int .i64 (selI (between 2 3 n) n si)]
  | 4, v, _ => v = .agg #[.int .i64 g0, .int .i64 g1, .int .i64 g2, .int .i64 g3, .int .i64 gl, .int .i64 gr, .int .i64 si]
  | 5, v, _ => v = .pointer (some ⟨b5, 1, none⟩)
  | 6, v, _ => v = .int .i64 n
  | 7, v, _ => v = .agg #[.int .i64 g0, .int .i64 g1, .int .i64 g2, .int .i64 g3, .int .i64 gl, .int .i64 gr, .int .i64 (selI (between 2 3 n) n si)]
  | 8, _, w => w.heap[p]? = some (.cells #[.int .i64 g0, .int .i64 g1, .int .i64 g2, .int .i64 g3, .int .i64 gl, .int .i64 gr, .int .i64 (selI (between 2 3 n) n si)] 27 (0, 0))
  | 9, _, w => w.heap[q]? = some (.cells #[.int .i64 g0, .int .i64 g1, .int .i64 g2, .int .i64 g3, .int .i64 gl, .int .i64 gr, .int .i64 (selI (between 2 3 n) n si)] 24 (0, 0))
  | 10, v, _ => v = .bool true
  | _, _, _ => True
theorem Fonce.keep {p q b5 : Nat} {g0 g1 g2 g3 gl gr si n : Int} {wide : Bool} {id : ByteArray} {cd : Int} {j : Nat} {u : Value} {w w' : World} (h : Fonce p q b5 g0 g1 g2 g3 gl gr si n wide id cd j u w) (hp : j = 8 → w'.heap[p]? = w.heap[p]?) (hq : j = 9 → w'.heap[q]? = w.heap[q]?) : Fonce p q b5 g0 g1 g2 g3 gl gr si n wide id cd j u w' := by
  match j, h with
  | 0, h | 1, h | 2, h | 3, h | 4, h | 5, h | 6, h | 7, h | 10, h => exact h
  | 8, h => exact (hp rfl).trans h
  | 9, h => exact (hq rfl).trans h
  | _ + 11, _ => exact trivial
theorem Fonce.gr {p q b5 : Nat} {g0 g1 g2 g3 gl gr si n : Int} {wide : Bool} {id : ByteArray} {cd : Int} {j : Nat} {u : Value} {w w' : World} (h : Fonce p q b5 g0 g1 g2 g3 gl gr si n wide id cd j u w) (hg : Gr w w') : Fonce p q b5 g0 g1 g2 g3 gl gr si n wide id cd j u w' := by
  match j, h with
  | 0, h | 1, h | 2, h | 3, h | 4, h | 5, h | 6, h | 7, h | 10, h => exact h
  | 8, h => exact hg.blk h
  | 9, h => exact hg.blk h
  | _ + 11, _ => exact trivial
set_option maxRecDepth 100000 in
set_option maxHeartbeats 2000000 in
theorem do_once (g0 g1 g2 g3 gl gr si n : Int) (wide : Bool) (id : ByteArray) (cd : Int) (w : World) (hcd : 0 ≤ cd ∧ cd < 256) :
    Calls Try.prog 18 #[.agg #[.int .i64 g0, .int .i64 g1, .int .i64 g2, .int .i64 g3, .int .i64 gl, .int .i64 gr, .int .i64 si], .agg #[.int .i64 g0, .int .i64 g1, .int .i64 g2, .int .i64 g3, .int .i64 gl, .int .i64 gr, .int .i64 si], .agg #[.int .i64 4, .int .i64 n, .bool wide, .string id, .int .u8 cd]] w (DoIs w ⟨g0, g1, g2, g3, gl, gr, (selI (between 2 3 n) n si)⟩) := by
  go_enter Try.func18, Try.ntmps18
  go_wp2_with fail
  have hbl := do_blocks w #[.int .i64 g0, .int .i64 g1, .int .i64 g2, .int .i64 g3, .int .i64 gl, .int .i64 gr, .int .i64 si] #[.int .i64 g0, .int .i64 g1, .int .i64 g2, .int .i64 g3, .int .i64 gl, .int .i64 gr, .int .i64 si] #[.int .i64 4, .int .i64 n, .bool wide, .string id, .int .u8 cd] #[.int .i64 0, .int .i64 0, .int .i64 0, .int .i64 0, .int .i64 0, .int .i64 0, .int .i64 0] #[.int .i64 0, .int .i64 0, .int .i64 0, .int .i64 0, .int .i64 0, .int .i64 0, .int .i64 0] 27 24 46 27 24
  obtain ⟨w0, hw0e⟩ : ∃ w0, w0 = (((((w.alloc (.cells #[.int .i64 g0, .int .i64 g1, .int .i64 g2, .int .i64 g3, .int .i64 gl, .int .i64 gr, .int .i64 si] 27)).alloc (.cells #[.int .i64 g0, .int .i64 g1, .int .i64 g2, .int .i64 g3, .int .i64 gl, .int .i64 gr, .int .i64 si] 24)).alloc (.cells #[.int .i64 4, .int .i64 n, .bool wide, .string id, .int .u8 cd] 46)).alloc (.cells #[.int .i64 0, .int .i64 0, .int .i64 0, .int .i64 0, .int .i64 0, .int .i64 0, .int .i64 0] 27)).alloc (.cells #[.int .i64 0, .int .i64 0, .int .i64 0, .int .i64 0, .int .i64 0, .int .i64 0, .int .i64 0] 24)) := ⟨_, rfl⟩
  rw [← hw0e] at hbl ⊢
  clear hw0e
  obtain ⟨hgw, h3, h4, h5, h6, h7⟩ := hbl
  obtain ⟨s0, hs0⟩ : ∃ s0, s0 = w.heap.size := ⟨_, rfl⟩
  have hs1 : w.heap.size ≤ s0 := by omega
  rw [← hs0] at h3 h4 h5 h6 h7 ⊢
  clear hs0
  have hB0 : BaseP w0 (s0 + 3) (s0 + 4) w0 := ⟨⟨rfl, rfl, rfl, Nat.le_refl _, fun _ _ _ => rfl⟩, ⟨_, rfl, h6⟩, _, rfl, h7⟩
  have hpq : s0 + 3 ≠ s0 + 4 := by omega
  refine wp_region_facts3 (Fonce (s0 + 3) (s0 + 4) (s0 + 2) g0 g1 g2 g3 gl gr si n wide id cd) (BaseP w0 (s0 + 3) (s0 + 4)) (by kernel_rfl) (by kernel_rfl) (by kernel_rfl) (hB0.gr ((Gr.refl _).drew)) ?_ ?_
  · refine Steps.cons1 1 rfl rfl ?_ (Steps.cons1 2 rfl rfl ?_ (Steps.cons1 3 rfl rfl ?_ (Steps.cons1 4 rfl rfl ?_ (Steps.cons1 5 rfl rfl ?_ (Steps.cons1 6 rfl rfl ?_ (Steps.cons1 7 rfl rfl ?_ (Steps.cons1 8 rfl rfl ?_ (Steps.cons1 9 rfl rfl ?_ (Steps.cons1 10 rfl rfl ?_ (Steps.cons1 11 rfl rfl ?_ (Steps.nil)))))))))))
    · (intro ys w' hB hP; simp only [Preds, Region.binds, Fonce, forall_const, and_true, true_and] at hP)
      have c7 := cells7 (hB.old h3 (by omega) (by omega))
      intro K hK
      simp only [fillA]
      go_simp
      have h2 := hK _ w' hB rfl (fun j u _ h => h)
      simp [fillA, Act.put, hP] at h2
      exact h2
    · (intro ys w' hB hP K hK; simp only [Preds, Region.binds, Fonce, forall_const, and_true, true_and] at hP; simp only [fillA]; go_simp; (have h2 := fun v => hK v w' hB); simp only [Fonce, forall_eq] at h2; (have h2 := h2 (fun _ _ _ h => h)); simp [fillA, Act.put, hP] at h2; exact h2)
    · (intro ys w' hB hP; simp only [Preds, Region.binds, Fonce, forall_const, and_true, true_and] at hP)
      have c7 := cells5 (hB.old h5 (by omega) (by omega))
      intro K hK
      simp only [fillA]
      go_simp
      have h2 := hK _ w' hB rfl (fun j u _ h => h)
      simp [fillA, Act.put, hP] at h2
      exact h2
    · (intro ys w' hB hP; simp only [Preds, Region.binds, Fonce, forall_const, and_true, true_and] at hP)
      intro K hK
      simp only [fillA]
      go_simp
      refine (once_any _ _ _ _ _ _ _ _ _).mono ?_
      rintro e w4 ⟨rfl, hg⟩
      have h2 := hK _ w4 (hB.gr hg) rfl (fun j u _ h => h.gr hg)
      simp [fillA, Act.put, hP] at h2
      exact h2
    · (intro ys w' hB hP; simp only [Preds, Region.binds, Fonce, forall_const, and_true, true_and] at hP)
      have c7 := cells7 (hB.old h4 (by omega) (by omega))
      intro K hK
      simp only [fillA]
      go_simp
      have h2 := hK _ w' hB rfl (fun j u _ h => h)
      simp [fillA, Act.put, hP] at h2
      exact h2
    · (intro ys w' hB hP K hK; simp only [Preds, Region.binds, Fonce, forall_const, and_true, true_and] at hP; simp only [fillA]; go_simp; (have h2 := fun v => hK v w' hB); simp only [Fonce, forall_eq] at h2; (have h2 := h2 (fun _ _ _ h => h)); simp [fillA, Act.put, hP] at h2; exact h2)
    · (intro ys w' hB hP; simp only [Preds, Region.binds, Fonce, forall_const, and_true, true_and] at hP)
      have c7 := cells5 (hB.old h5 (by omega) (by omega))
      intro K hK
      simp only [fillA]
      go_simp
      have h2 := hK _ w' hB rfl (fun j u _ h => h)
      simp [fillA, Act.put, hP] at h2
      exact h2
    · (intro ys w' hB hP; simp only [Preds, Region.binds, Fonce, forall_const, and_true, true_and] at hP)
      intro K hK
      simp only [fillA]
      go_simp
      refine (invo_any _ _ _ _ _ _ _ _ _).mono ?_
      rintro e w4 ⟨rfl, hg⟩
      have h2 := hK _ w4 (hB.gr hg) rfl (fun j u _ h => h.gr hg)
      simp [fillA, Act.put, hP] at h2
      exact h2
    · (intro ys w' hB hP; simp only [Preds, Region.binds, Fonce, forall_const, and_true, true_and] at hP)
      obtain ⟨cs, hcs, hblk⟩ := hB.2.1
      have hv : ys 3 = .agg #[.int .i64 g0, .int .i64 g1, .int .i64 g2, .int .i64 g3, .int .i64 gl, .int .i64 gr, .int .i64 (selI (between 2 3 n) n si)] := by simp [hP]
      have hs := setRow_heap w' (s0 + 3) cs #[.int .i64 g0, .int .i64 g1, .int .i64 g2, .int .i64 g3, .int .i64 gl, .int .i64 gr, .int .i64 (selI (between 2 3 n) n si)] 27 (0, 0) hblk
      have hB2 := hB.setp hpq rfl hs setRow_upd
      intro K hK
      simp only [fillA]
      with_reducible refine wp_store_row 27 (.tmp 6) (.tmp 73) ?ho8 (s0 + 3) #[.int .i64 g0, .int .i64 g1, .int .i64 g2, .int .i64 g3, .int .i64 gl, .int .i64 gr, .int .i64 (selI (between 2 3 n) n si)] ?hx8 ?hy8 27 cs hblk ?hi8 ?hc8 ?h18 ?hh8
      case ho8 => rfl
      case hx8 => simp [Act.eval, Act.put]
      case hy8 => simp [Act.eval, Act.put, hv]
      case hi8 => kernel_rfl
      case hc8 => exact hcs
      case h18 => simp [Value.oneCell']
      case hh8 =>
        have h2 := hK undef (w'.setRow (s0 + 3) #[.int .i64 g0, .int .i64 g1, .int .i64 g2, .int .i64 g3, .int .i64 gl, .int .i64 gr, .int .i64 (selI (between 2 3 n) n si)]) hB2 hs (fun j u hj h => h.keep (fun e => absurd e hj) (fun e => setRow_other _ _ _ _ hpq.symm))
        exact h2
    · (intro ys w' hB hP; simp only [Preds, Region.binds, Fonce, forall_const, and_true, true_and] at hP)
      obtain ⟨cs, hcs, hblk⟩ := hB.2.2
      have hv : ys 7 = .agg #[.int .i64 g0, .int .i64 g1, .int .i64 g2, .int .i64 g3, .int .i64 gl, .int .i64 gr, .int .i64 (selI (between 2 3 n) n si)] := by simp [hP]
      have hs := setRow_heap w' (s0 + 4) cs #[.int .i64 g0, .int .i64 g1, .int .i64 g2, .int .i64 g3, .int .i64 gl, .int .i64 gr, .int .i64 (selI (between 2 3 n) n si)] 24 (0, 0) hblk
      have hB2 := hB.setq hpq rfl hs setRow_upd
      intro K hK
      simp only [fillA]
      with_reducible refine wp_store_row 24 (.tmp 7) (.tmp 77) ?ho9 (s0 + 4) #[.int .i64 g0, .int .i64 g1, .int .i64 g2, .int .i64 g3, .int .i64 gl, .int .i64 gr, .int .i64 (selI (between 2 3 n) n si)] ?hx9 ?hy9 24 cs hblk ?hi9 ?hc9 ?h19 ?hh9
      case ho9 => rfl
      case hx9 => simp [Act.eval, Act.put]
      case hy9 => simp [Act.eval, Act.put, hv]
      case hi9 => kernel_rfl
      case hc9 => exact hcs
      case h19 => simp [Value.oneCell']
      case hh9 =>
        have h2 := hK undef (w'.setRow (s0 + 4) #[.int .i64 g0, .int .i64 g1, .int .i64 g2, .int .i64 g3, .int .i64 gl, .int .i64 gr, .int .i64 (selI (between 2 3 n) n si)]) hB2 hs (fun j u hj h => h.keep (fun e => setRow_other _ _ _ _ hpq) (fun e => absurd e hj))
        exact h2
    · (intro ys w' hB hP K hK; simp only [Preds, Region.binds, Fonce, forall_const, and_true, true_and] at hP; simp only [fillA]; go_simp; (have h2 := fun v => hK v w' hB); simp only [Fonce, forall_eq] at h2; (have h2 := h2 (fun _ _ _ h => h)); simp [fillA, Act.put, hP] at h2; exact h2)
  · intro ys w' hB hF
    have f0 : ys 0 = _ := hF 0 (by decide)
    have f1 : ys 1 = _ := hF 1 (by decide)
    have f2 : ys 2 = _ := hF 2 (by decide)
    have f3 : ys 3 = _ := hF 3 (by decide)
    have f4 : ys 4 = _ := hF 4 (by decide)
    have f5 : ys 5 = _ := hF 5 (by decide)
    have f6 : ys 6 = _ := hF 6 (by decide)
    have f7 : ys 7 = _ := hF 7 (by decide)
    have f8 : _ = _ := hF 8 (by decide)
    have f9 : _ = _ := hF 9 (by decide)
    have f10 : ys 10 = _ := hF 10 (by decide)
    clear hF
    have r1 := cells7 f8
    have r2 := cells7 f9
    simp only [fillA, f0, f1, f2, f3, f4, f5, f6, f7, f10]
    clear f0 f1 f2 f3 f4 f5 f6 f7 f8 f9 f10
    go_wp2_with fail
    exact bodyPost_ret (v := .tuple #[.agg #[.int .i64 g0, .int .i64 g1, .int .i64 g2, .int .i64 g3, .int .i64 gl, .int .i64 gr, .int .i64 (selI (between 2 3 n) n si)], .agg #[.int .i64 g0, .int .i64 g1, .int .i64 g2, .int .i64 g3, .int .i64 gl, .int .i64 gr, .int .i64 (selI (between 2 3 n) n si)], .bool true]) (by simp [results, Try.results18, go_sem, *]) rfl ⟨rfl, hB.fin hgw (by omega) (by omega)⟩

def Fnone (p q b5 : Nat) (g0 g1 g2 g3 gl gr si n : Int) (wide : Bool) (id : ByteArray) (cd : Int) : Nat → Value → World → Prop
  | 0, v, _ => v = .agg #[.int .i64 g0, .int .i64 g1, .int .i64 g2, .int .i64 g3, .int .i64 gl, .int .i64 gr, .int .i64 si]
  | 1, v, _ => v = .agg #[.int .i64 g0, .int .i64 g1, .int .i64 g2, .int .i64 g3, .int .i64 gl, .int .i64 gr, .int .i64 si]
  | 2, _, w => w.heap[p]? = some (.cells #[.int .i64 g0, .int .i64 g1, .int .i64 g2, .int .i64 g3, .int .i64 gl, .int .i64 gr, .int .i64 si] 27 (0, 0))
  | 3, _, w => w.heap[q]? = some (.cells #[.int .i64 g0, .int .i64 g1, .int .i64 g2, .int .i64 g3, .int .i64 gl, .int .i64 gr, .int .i64 si] 24 (0, 0))
  | 4, v, _ => v = .bool true
  | _, _, _ => True
theorem Fnone.keep {p q b5 : Nat} {g0 g1 g2 g3 gl gr si n : Int} {wide : Bool} {id : ByteArray} {cd : Int} {j : Nat} {u : Value} {w w' : World} (h : Fnone p q b5 g0 g1 g2 g3 gl gr si n wide id cd j u w) (hp : j = 2 → w'.heap[p]? = w.heap[p]?) (hq : j = 3 → w'.heap[q]? = w.heap[q]?) : Fnone p q b5 g0 g1 g2 g3 gl gr si n wide id cd j u w' := by
  match j, h with
  | 0, h | 1, h | 4, h => exact h
  | 2, h => exact (hp rfl).trans h
  | 3, h => exact (hq rfl).trans h
  | _ + 5, _ => exact trivial
theorem Fnone.gr {p q b5 : Nat} {g0 g1 g2 g3 gl gr si n : Int} {wide : Bool} {id : ByteArray} {cd : Int} {j : Nat} {u : Value} {w w' : World} (h : Fnone p q b5 g0 g1 g2 g3 gl gr si n wide id cd j u w) (hg : Gr w w') : Fnone p q b5 g0 g1 g2 g3 gl gr si n wide id cd j u w' := by
  match j, h with
  | 0, h | 1, h | 4, h => exact h
  | 2, h => exact hg.blk h
  | 3, h => exact hg.blk h
  | _ + 5, _ => exact trivial
set_option maxRecDepth 100000 in
set_option maxHeartbeats 2000000 in
theorem do_none (g0 g1 g2 g3 gl gr si n : Int) (wide : Bool) (id : ByteArray) (cd : Int) (k : Int) (w : World) (h1 : (k == 1) = false) (h2 : (k == 2) = false) (h3' : (k == 3) = false) (h4' : (k == 4) = false) (h5' : (k == 5) = false) (hcd : 0 ≤ cd ∧ cd < 256) :
    Calls Try.prog 18 #[.agg #[.int .i64 g0, .int .i64 g1, .int .i64 g2, .int .i64 g3, .int .i64 gl, .int .i64 gr, .int .i64 si], .agg #[.int .i64 g0, .int .i64 g1, .int .i64 g2, .int .i64 g3, .int .i64 gl, .int .i64 gr, .int .i64 si], .agg #[.int .i64 k, .int .i64 n, .bool wide, .string id, .int .u8 cd]] w (DoIs w ⟨g0, g1, g2, g3, gl, gr, si⟩) := by
  go_enter Try.func18, Try.ntmps18
  go_wp2_with fail
  have hbl := do_blocks w #[.int .i64 g0, .int .i64 g1, .int .i64 g2, .int .i64 g3, .int .i64 gl, .int .i64 gr, .int .i64 si] #[.int .i64 g0, .int .i64 g1, .int .i64 g2, .int .i64 g3, .int .i64 gl, .int .i64 gr, .int .i64 si] #[.int .i64 k, .int .i64 n, .bool wide, .string id, .int .u8 cd] #[.int .i64 0, .int .i64 0, .int .i64 0, .int .i64 0, .int .i64 0, .int .i64 0, .int .i64 0] #[.int .i64 0, .int .i64 0, .int .i64 0, .int .i64 0, .int .i64 0, .int .i64 0, .int .i64 0] 27 24 46 27 24
  obtain ⟨w0, hw0e⟩ : ∃ w0, w0 = (((((w.alloc (.cells #[.int .i64 g0, .int .i64 g1, .int .i64 g2, .int .i64 g3, .int .i64 gl, .int .i64 gr, .int .i64 si] 27)).alloc (.cells #[.int .i64 g0, .int .i64 g1, .int .i64 g2, .int .i64 g3, .int .i64 gl, .int .i64 gr, .int .i64 si] 24)).alloc (.cells #[.int .i64 k, .int .i64 n, .bool wide, .string id, .int .u8 cd] 46)).alloc (.cells #[.int .i64 0, .int .i64 0, .int .i64 0, .int .i64 0, .int .i64 0, .int .i64 0, .int .i64 0] 27)).alloc (.cells #[.int .i64 0, .int .i64 0, .int .i64 0, .int .i64 0, .int .i64 0, .int .i64 0, .int .i64 0] 24)) := ⟨_, rfl⟩
  rw [← hw0e] at hbl ⊢
  clear hw0e
  obtain ⟨hgw, h3, h4, h5, h6, h7⟩ := hbl
  obtain ⟨s0, hs0⟩ : ∃ s0, s0 = w.heap.size := ⟨_, rfl⟩
  have hs1 : w.heap.size ≤ s0 := by omega
  rw [← hs0] at h3 h4 h5 h6 h7 ⊢
  clear hs0
  have hB0 : BaseP w0 (s0 + 3) (s0 + 4) w0 := ⟨⟨rfl, rfl, rfl, Nat.le_refl _, fun _ _ _ => rfl⟩, ⟨_, rfl, h6⟩, _, rfl, h7⟩
  have hpq : s0 + 3 ≠ s0 + 4 := by omega
  refine wp_region_facts3 (Fnone (s0 + 3) (s0 + 4) (s0 + 2) g0 g1 g2 g3 gl gr si n wide id cd) (BaseP w0 (s0 + 3) (s0 + 4)) (by kernel_rfl) (by kernel_rfl) (by kernel_rfl) (hB0.gr ((Gr.refl _).drew)) ?_ ?_
  · refine Steps.cons1 1 rfl rfl ?_ (Steps.cons1 2 rfl rfl ?_ (Steps.cons1 3 rfl rfl ?_ (Steps.cons1 4 rfl rfl ?_ (Steps.cons1 5 rfl rfl ?_ (Steps.nil)))))
    · (intro ys w' hB hP; simp only [Preds, Region.binds, Fnone, forall_const, and_true, true_and] at hP)
      have c7 := cells7 (hB.old h3 (by omega) (by omega))
      intro K hK
      simp only [fillA]
      go_simp
      have h2 := hK _ w' hB rfl (fun j u _ h => h)
      simp [fillA, Act.put, hP] at h2
      exact h2
    · (intro ys w' hB hP; simp only [Preds, Region.binds, Fnone, forall_const, and_true, true_and] at hP)
      have c7 := cells7 (hB.old h4 (by omega) (by omega))
      intro K hK
      simp only [fillA]
      go_simp
      have h2 := hK _ w' hB rfl (fun j u _ h => h)
      simp [fillA, Act.put, hP] at h2
      exact h2
    · (intro ys w' hB hP; simp only [Preds, Region.binds, Fnone, forall_const, and_true, true_and] at hP)
      obtain ⟨cs, hcs, hblk⟩ := hB.2.1
      have hv : ys 0 = .agg #[.int .i64 g0, .int .i64 g1, .int .i64 g2, .int .i64 g3, .int .i64 gl, .int .i64 gr, .int .i64 si] := by simp [hP]
      have hs := setRow_heap w' (s0 + 3) cs #[.int .i64 g0, .int .i64 g1, .int .i64 g2, .int .i64 g3, .int .i64 gl, .int .i64 gr, .int .i64 si] 27 (0, 0) hblk
      have hB2 := hB.setp hpq rfl hs setRow_upd
      intro K hK
      simp only [fillA]
      with_reducible refine wp_store_row 27 (.tmp 6) (.tmp 99) ?ho2 (s0 + 3) #[.int .i64 g0, .int .i64 g1, .int .i64 g2, .int .i64 g3, .int .i64 gl, .int .i64 gr, .int .i64 si] ?hx2 ?hy2 27 cs hblk ?hi2 ?hc2 ?h12 ?hh2
      case ho2 => rfl
      case hx2 => simp [Act.eval, Act.put]
      case hy2 => simp [Act.eval, Act.put, hv]
      case hi2 => kernel_rfl
      case hc2 => exact hcs
      case h12 => simp [Value.oneCell']
      case hh2 =>
        have h2 := hK undef (w'.setRow (s0 + 3) #[.int .i64 g0, .int .i64 g1, .int .i64 g2, .int .i64 g3, .int .i64 gl, .int .i64 gr, .int .i64 si]) hB2 hs (fun j u hj h => h.keep (fun e => absurd e hj) (fun e => setRow_other _ _ _ _ hpq.symm))
        exact h2
    · (intro ys w' hB hP; simp only [Preds, Region.binds, Fnone, forall_const, and_true, true_and] at hP)
      obtain ⟨cs, hcs, hblk⟩ := hB.2.2
      have hv : ys 1 = .agg #[.int .i64 g0, .int .i64 g1, .int .i64 g2, .int .i64 g3, .int .i64 gl, .int .i64 gr, .int .i64 si] := by simp [hP]
      have hs := setRow_heap w' (s0 + 4) cs #[.int .i64 g0, .int .i64 g1, .int .i64 g2, .int .i64 g3, .int .i64 gl, .int .i64 gr, .int .i64 si] 24 (0, 0) hblk
      have hB2 := hB.setq hpq rfl hs setRow_upd
      intro K hK
      simp only [fillA]
      with_reducible refine wp_store_row 24 (.tmp 7) (.tmp 100) ?ho3 (s0 + 4) #[.int .i64 g0, .int .i64 g1, .int .i64 g2, .int .i64 g3, .int .i64 gl, .int .i64 gr, .int .i64 si] ?hx3 ?hy3 24 cs hblk ?hi3 ?hc3 ?h13 ?hh3
      case ho3 => rfl
      case hx3 => simp [Act.eval, Act.put]
      case hy3 => simp [Act.eval, Act.put, hv]
      case hi3 => kernel_rfl
      case hc3 => exact hcs
      case h13 => simp [Value.oneCell']
      case hh3 =>
        have h2 := hK undef (w'.setRow (s0 + 4) #[.int .i64 g0, .int .i64 g1, .int .i64 g2, .int .i64 g3, .int .i64 gl, .int .i64 gr, .int .i64 si]) hB2 hs (fun j u hj h => h.keep (fun e => setRow_other _ _ _ _ hpq) (fun e => absurd e hj))
        exact h2
    · (intro ys w' hB hP K hK; simp only [Preds, Region.binds, Fnone, forall_const, and_true, true_and] at hP; simp only [fillA]; go_simp; (have h2 := fun v => hK v w' hB); simp only [Fnone, forall_eq] at h2; (have h2 := h2 (fun _ _ _ h => h)); simp [fillA, Act.put, hP] at h2; exact h2)
  · intro ys w' hB hF
    have f0 : ys 0 = _ := hF 0 (by decide)
    have f1 : ys 1 = _ := hF 1 (by decide)
    have f2 : _ = _ := hF 2 (by decide)
    have f3 : _ = _ := hF 3 (by decide)
    have f4 : ys 4 = _ := hF 4 (by decide)
    clear hF
    have r1 := cells7 f2
    have r2 := cells7 f3
    simp only [fillA, f0, f1, f4]
    clear f0 f1 f2 f3 f4
    go_wp2_with fail
    exact bodyPost_ret (v := .tuple #[.agg #[.int .i64 g0, .int .i64 g1, .int .i64 g2, .int .i64 g3, .int .i64 gl, .int .i64 gr, .int .i64 si], .agg #[.int .i64 g0, .int .i64 g1, .int .i64 g2, .int .i64 g3, .int .i64 gl, .int .i64 gr, .int .i64 si], .bool true]) (by simp [results, Try.results18, go_sem, *]) rfl ⟨rfl, hB.fin hgw (by omega) (by omega)⟩

def Fmap (p q b5 : Nat) (g0 g1 g2 g3 gl gr si n : Int) (wide : Bool) (id : ByteArray) (cd : Int) : Nat → Value → World → Prop
  | 0, v, _ => v = .agg #[.int .i64 g0, .int .i64 g1, .int .i64 g2, .int .i64 g3, .int .i64 gl, .int .i64 gr, .int .i64 (selI (decide (cd % 128 < 32)) si 0)]
  | 1, v, _ => v = .agg #[.int .i64 g0, .int .i64 g1, .int .i64 g2, .int .i64 g3, .int .i64 gl, .int .i64 gr, .int .i64 (selI (decide (cd % 128 < 32)) si 0)]
  | 2, v, _ => v = .int .i32 (mapRune g0 g1 g2 g3 gl gr si cd)
  | 3, v, _ => v = .int .i32 (mapRune g0 g1 g2 g3 gl gr si cd)
  | 4, v, _ => v = .bool true
  | 5, _, w => w.heap[p]? = some (.cells #[.int .i64 g0, .int .i64 g1, .int .i64 g2, .int .i64 g3, .int .i64 gl, .int .i64 gr, .int .i64 (selI (decide (cd % 128 < 32)) si 0)] 27 (0, 0))
  | 6, _, w => w.heap[q]? = some (.cells #[.int .i64 g0, .int .i64 g1, .int .i64 g2, .int .i64 g3, .int .i64 gl, .int .i64 gr, .int .i64 (selI (decide (cd % 128 < 32)) si 0)] 24 (0, 0))
  | 7, v, _ => v = .bool true
  | _, _, _ => True
theorem Fmap.keep {p q b5 : Nat} {g0 g1 g2 g3 gl gr si n : Int} {wide : Bool} {id : ByteArray} {cd : Int} {j : Nat} {u : Value} {w w' : World} (h : Fmap p q b5 g0 g1 g2 g3 gl gr si n wide id cd j u w) (hp : j = 5 → w'.heap[p]? = w.heap[p]?) (hq : j = 6 → w'.heap[q]? = w.heap[q]?) : Fmap p q b5 g0 g1 g2 g3 gl gr si n wide id cd j u w' := by
  match j, h with
  | 0, h | 1, h | 2, h | 3, h | 4, h | 7, h => exact h
  | 5, h => exact (hp rfl).trans h
  | 6, h => exact (hq rfl).trans h
  | _ + 8, _ => exact trivial
theorem Fmap.gr {p q b5 : Nat} {g0 g1 g2 g3 gl gr si n : Int} {wide : Bool} {id : ByteArray} {cd : Int} {j : Nat} {u : Value} {w w' : World} (h : Fmap p q b5 g0 g1 g2 g3 gl gr si n wide id cd j u w) (hg : Gr w w') : Fmap p q b5 g0 g1 g2 g3 gl gr si n wide id cd j u w' := by
  match j, h with
  | 0, h | 1, h | 2, h | 3, h | 4, h | 7, h => exact h
  | 5, h => exact hg.blk h
  | 6, h => exact hg.blk h
  | _ + 8, _ => exact trivial
set_option maxRecDepth 100000 in
set_option maxHeartbeats 2000000 in
theorem do_map (g0 g1 g2 g3 gl gr si n : Int) (wide : Bool) (id : ByteArray) (cd : Int) (w : World) (hcd : 0 ≤ cd ∧ cd < 256) :
    Calls Try.prog 18 #[.agg #[.int .i64 g0, .int .i64 g1, .int .i64 g2, .int .i64 g3, .int .i64 gl, .int .i64 gr, .int .i64 si], .agg #[.int .i64 g0, .int .i64 g1, .int .i64 g2, .int .i64 g3, .int .i64 gl, .int .i64 gr, .int .i64 si], .agg #[.int .i64 5, .int .i64 n, .bool wide, .string id, .int .u8 cd]] w (DoIs w ⟨g0, g1, g2, g3, gl, gr, (selI (decide (cd % 128 < 32)) si 0)⟩) := by
  go_enter Try.func18, Try.ntmps18
  go_wp2_with fail
  have hbl := do_blocks w #[.int .i64 g0, .int .i64 g1, .int .i64 g2, .int .i64 g3, .int .i64 gl, .int .i64 gr, .int .i64 si] #[.int .i64 g0, .int .i64 g1, .int .i64 g2, .int .i64 g3, .int .i64 gl, .int .i64 gr, .int .i64 si] #[.int .i64 5, .int .i64 n, .bool wide, .string id, .int .u8 cd] #[.int .i64 0, .int .i64 0, .int .i64 0, .int .i64 0, .int .i64 0, .int .i64 0, .int .i64 0] #[.int .i64 0, .int .i64 0, .int .i64 0, .int .i64 0, .int .i64 0, .int .i64 0, .int .i64 0] 27 24 46 27 24
  obtain ⟨w0, hw0e⟩ : ∃ w0, w0 = (((((w.alloc (.cells #[.int .i64 g0, .int .i64 g1, .int .i64 g2, .int .i64 g3, .int .i64 gl, .int .i64 gr, .int .i64 si] 27)).alloc (.cells #[.int .i64 g0, .int .i64 g1, .int .i64 g2, .int .i64 g3, .int .i64 gl, .int .i64 gr, .int .i64 si] 24)).alloc (.cells #[.int .i64 5, .int .i64 n, .bool wide, .string id, .int .u8 cd] 46)).alloc (.cells #[.int .i64 0, .int .i64 0, .int .i64 0, .int .i64 0, .int .i64 0, .int .i64 0, .int .i64 0] 27)).alloc (.cells #[.int .i64 0, .int .i64 0, .int .i64 0, .int .i64 0, .int .i64 0, .int .i64 0, .int .i64 0] 24)) := ⟨_, rfl⟩
  rw [← hw0e] at hbl ⊢
  clear hw0e
  obtain ⟨hgw, h3, h4, h5, h6, h7⟩ := hbl
  obtain ⟨s0, hs0⟩ : ∃ s0, s0 = w.heap.size := ⟨_, rfl⟩
  have hs1 : w.heap.size ≤ s0 := by omega
  rw [← hs0] at h3 h4 h5 h6 h7 ⊢
  clear hs0
  have hB0 : BaseP w0 (s0 + 3) (s0 + 4) w0 := ⟨⟨rfl, rfl, rfl, Nat.le_refl _, fun _ _ _ => rfl⟩, ⟨_, rfl, h6⟩, _, rfl, h7⟩
  have hpq : s0 + 3 ≠ s0 + 4 := by omega
  refine (map_any _ _ _ _ _ _ _ _ _ hcd.1 hcd.2).mono ?_
  rintro e w1 ⟨rfl, hg1⟩
  have c4 := cells7 (hg1.blk h4)
  have c5 := cells5 (hg1.blk h5)
  have hl1 := blk_lt0 (hg1.blk h7)
  have hl10 : s0 < w1.heap.size := by omega
  have hl11 : s0 + 1 < w1.heap.size := by omega
  have hl12 : s0 + 2 < w1.heap.size := by omega
  go_wp2_with fail
  refine (rmap_any _ _ _ _ _ _ _ _ _ hcd.1 hcd.2).mono ?_
  rintro e w2 ⟨rfl, hg2⟩
  have hl2 := hg2.size
  simp at hl2
  go_wp2_with fail
  have h14a := hg2.blk (heap_alloc_new w1 (.cells #[.int .i64 g0, .int .i64 g1, .int .i64 g2, .int .i64 g3, .int .i64 gl, .int .i64 gr, .int .i64 (selI (decide (cd % 128 < 32)) si 0)] 27))
  obtain ⟨wA, hwA⟩ : ∃ wA, wA = w2.alloc (.cells #[.int .i64 g0, .int .i64 g1, .int .i64 g2, .int .i64 g3, .int .i64 gl, .int .i64 gr, .int .i64 (selI (decide (cd % 128 < 32)) si 0)] 24) := ⟨_, rfl⟩
  have h16 : wA.heap[w2.heap.size]? = some (.cells #[.int .i64 g0, .int .i64 g1, .int .i64 g2, .int .i64 g3, .int .i64 gl, .int .i64 gr, .int .i64 (selI (decide (cd % 128 < 32)) si 0)] 24 (0, 0)) := by rw [hwA]; exact heap_alloc_new _ _
  have hg3 : Gr w2 wA := by rw [hwA]; exact (Gr.refl _).alloc _
  rw [← hwA]
  clear hwA
  have h14 := hg3.blk h14a
  have hg02 : Gr w0 wA := (hg1.trans ((Gr.refl w1).alloc _)).trans (hg2.trans hg3)
  have hgA : Gr w wA := hgw.trans hg02
  have hBA : BaseP wA (s0 + 3) (s0 + 4) wA := ⟨⟨rfl, rfl, rfl, Nat.le_refl _, fun _ _ _ => rfl⟩, ⟨_, rfl, hg02.blk h6⟩, _, rfl, hg02.blk h7⟩
  obtain ⟨b14, hb14⟩ : ∃ b, b = w1.heap.size := ⟨_, rfl⟩
  obtain ⟨b16, hb16⟩ : ∃ b, b = w2.heap.size := ⟨_, rfl⟩
  clear hl10 hl11 hl12
  rw [← hb14] at h14 hl1 hl2 ⊢
  rw [← hb16] at h16 hl2 ⊢
  clear hb14 hb16 h14a hg1 hg2 hg3 hg02 c4 c5 hgw
  refine wp_region_facts3 (Fmap (s0 + 3) (s0 + 4) (s0 + 2) g0 g1 g2 g3 gl gr si n wide id cd) (BaseP wA (s0 + 3) (s0 + 4)) (by kernel_rfl) (by kernel_rfl) (by kernel_rfl) (hBA.gr ((Gr.refl _).drew)) ?_ ?_
  · refine Steps.cons1 1 rfl rfl ?_ (Steps.cons1 2 rfl rfl ?_ (Steps.cons1 3 rfl rfl ?_ (Steps.cons1 4 rfl rfl ?_ (Steps.cons1 5 rfl rfl ?_ (Steps.cons1 6 rfl rfl ?_ (Steps.cons1 7 rfl rfl ?_ (Steps.cons1 8 rfl rfl ?_ (Steps.nil))))))))
    · (intro ys w' hB hP; simp only [Preds, Region.binds, Fmap, forall_const, and_true, true_and] at hP)
      have c7 := cells7 (hB.old h14 (by omega) (by omega))
      intro K hK
      simp only [fillA]
      go_simp
      have h2 := hK _ w' hB rfl (fun j u _ h => h)
      simp [fillA, Act.put, hP] at h2
      exact h2
    · (intro ys w' hB hP; simp only [Preds, Region.binds, Fmap, forall_const, and_true, true_and] at hP)
      have c7 := cells7 (hB.old h16 (by omega) (by omega))
      intro K hK
      simp only [fillA]
      go_simp
      have h2 := hK _ w' hB rfl (fun j u _ h => h)
      simp [fillA, Act.put, hP] at h2
      exact h2
    · (intro ys w' hB hP K hK; simp only [Preds, Region.binds, Fmap, forall_const, and_true, true_and] at hP; simp only [fillA]; go_simp; (have h2 := fun v => hK v w' hB); simp only [Fmap, forall_eq] at h2; (have h2 := h2 (fun _ _ _ h => h)); simp [fillA, Act.put, hP] at h2; exact h2)
    · (intro ys w' hB hP K hK; simp only [Preds, Region.binds, Fmap, forall_const, and_true, true_and] at hP; simp only [fillA]; go_simp; (have h2 := fun v => hK v w' hB); simp only [Fmap, forall_eq] at h2; (have h2 := h2 (fun _ _ _ h => h)); simp [fillA, Act.put, hP] at h2; exact h2)
    · (intro ys w' hB hP K hK; simp only [Preds, Region.binds, Fmap, forall_const, and_true, true_and] at hP; simp only [fillA]; go_simp; (have h2 := fun v => hK v w' hB); simp only [Fmap, forall_eq] at h2; (have h2 := h2 (fun _ _ _ h => h)); simp [fillA, Act.put, hP] at h2; exact h2)
    · (intro ys w' hB hP; simp only [Preds, Region.binds, Fmap, forall_const, and_true, true_and] at hP)
      obtain ⟨cs, hcs, hblk⟩ := hB.2.1
      have hv : ys 0 = .agg #[.int .i64 g0, .int .i64 g1, .int .i64 g2, .int .i64 g3, .int .i64 gl, .int .i64 gr, .int .i64 (selI (decide (cd % 128 < 32)) si 0)] := by simp [hP]
      have hs := setRow_heap w' (s0 + 3) cs #[.int .i64 g0, .int .i64 g1, .int .i64 g2, .int .i64 g3, .int .i64 gl, .int .i64 gr, .int .i64 (selI (decide (cd % 128 < 32)) si 0)] 27 (0, 0) hblk
      have hB2 := hB.setp hpq rfl hs setRow_upd
      intro K hK
      simp only [fillA]
      with_reducible refine wp_store_row 27 (.tmp 6) (.tmp 94) ?ho5 (s0 + 3) #[.int .i64 g0, .int .i64 g1, .int .i64 g2, .int .i64 g3, .int .i64 gl, .int .i64 gr, .int .i64 (selI (decide (cd % 128 < 32)) si 0)] ?hx5 ?hy5 27 cs hblk ?hi5 ?hc5 ?h15 ?hh5
      case ho5 => rfl
      case hx5 => simp [Act.eval, Act.put]
      case hy5 => simp [Act.eval, Act.put, hv]
      case hi5 => kernel_rfl
      case hc5 => exact hcs
      case h15 => simp [Value.oneCell']
      case hh5 =>
        have h2 := hK undef (w'.setRow (s0 + 3) #[.int .i64 g0, .int .i64 g1, .int .i64 g2, .int .i64 g3, .int .i64 gl, .int .i64 gr, .int .i64 (selI (decide (cd % 128 < 32)) si 0)]) hB2 hs (fun j u hj h => h.keep (fun e => absurd e hj) (fun e => setRow_other _ _ _ _ hpq.symm))
        exact h2
    · (intro ys w' hB hP; simp only [Preds, Region.binds, Fmap, forall_const, and_true, true_and] at hP)
      obtain ⟨cs, hcs, hblk⟩ := hB.2.2
      have hv : ys 1 = .agg #[.int .i64 g0, .int .i64 g1, .int .i64 g2, .int .i64 g3, .int .i64 gl, .int .i64 gr, .int .i64 (selI (decide (cd % 128 < 32)) si 0)] := by simp [hP]
      have hs := setRow_heap w' (s0 + 4) cs #[.int .i64 g0, .int .i64 g1, .int .i64 g2, .int .i64 g3, .int .i64 gl, .int .i64 gr, .int .i64 (selI (decide (cd % 128 < 32)) si 0)] 24 (0, 0) hblk
      have hB2 := hB.setq hpq rfl hs setRow_upd
      intro K hK
      simp only [fillA]
      with_reducible refine wp_store_row 24 (.tmp 7) (.tmp 95) ?ho6 (s0 + 4) #[.int .i64 g0, .int .i64 g1, .int .i64 g2, .int .i64 g3, .int .i64 gl, .int .i64 gr, .int .i64 (selI (decide (cd % 128 < 32)) si 0)] ?hx6 ?hy6 24 cs hblk ?hi6 ?hc6 ?h16 ?hh6
      case ho6 => rfl
      case hx6 => simp [Act.eval, Act.put]
      case hy6 => simp [Act.eval, Act.put, hv]
      case hi6 => kernel_rfl
      case hc6 => exact hcs
      case h16 => simp [Value.oneCell']
      case hh6 =>
        have h2 := hK undef (w'.setRow (s0 + 4) #[.int .i64 g0, .int .i64 g1, .int .i64 g2, .int .i64 g3, .int .i64 gl, .int .i64 gr, .int .i64 (selI (decide (cd % 128 < 32)) si 0)]) hB2 hs (fun j u hj h => h.keep (fun e => setRow_other _ _ _ _ hpq) (fun e => absurd e hj))
        exact h2
    · (intro ys w' hB hP K hK; simp only [Preds, Region.binds, Fmap, forall_const, and_true, true_and] at hP; simp only [fillA]; go_simp; (have h2 := fun v => hK v w' hB); simp only [Fmap, forall_eq] at h2; (have h2 := h2 (fun _ _ _ h => h)); simp [fillA, Act.put, hP] at h2; exact h2)
  · intro ys w' hB hF
    have f0 : ys 0 = _ := hF 0 (by decide)
    have f1 : ys 1 = _ := hF 1 (by decide)
    have f2 : ys 2 = _ := hF 2 (by decide)
    have f3 : ys 3 = _ := hF 3 (by decide)
    have f4 : ys 4 = _ := hF 4 (by decide)
    have f5 : _ = _ := hF 5 (by decide)
    have f6 : _ = _ := hF 6 (by decide)
    have f7 : ys 7 = _ := hF 7 (by decide)
    clear hF
    have r1 := cells7 f5
    have r2 := cells7 f6
    simp only [fillA, f0, f1, f2, f3, f4, f7]
    clear f0 f1 f2 f3 f4 f5 f6 f7
    go_wp2_with fail
    exact bodyPost_ret (v := .tuple #[.agg #[.int .i64 g0, .int .i64 g1, .int .i64 g2, .int .i64 g3, .int .i64 gl, .int .i64 gr, .int .i64 (selI (decide (cd % 128 < 32)) si 0)], .agg #[.int .i64 g0, .int .i64 g1, .int .i64 g2, .int .i64 g3, .int .i64 gl, .int .i64 gr, .int .i64 (selI (decide (cd % 128 < 32)) si 0)], .bool true]) (by simp [results, Try.results18, go_sem, *]) rfl ⟨rfl, hB.fin hgA (by omega) (by omega)⟩

def Fdes (p q b5 : Nat) (g0 g1 g2 g3 gl gr si n : Int) (wide : Bool) (id : ByteArray) (cd : Int) : Nat → Value → World → Prop
  | 0, v, _ => v = .agg #[.int .i64 (selI (desOk wide id n && decide (n = 0)) (findP wide id) g0), .int .i64 (selI (desOk wide id n && decide (n = 1)) (findP wide id) g1), .int .i64 (selI (desOk wide id n && decide (n = 2)) (findP wide id) g2), .int .i64 (selI (desOk wide id n && decide (n = 3)) (findP wide id) g3), .int .i64 gl, .int .i64 gr, .int .i64 si]
  | 1, v, _ => v = .agg #[.int .i64 (selI (desOk wide id n && decide (n = 0)) (findP wide id) g0), .int .i64 (selI (desOk wide id n && decide (n = 1)) (findP wide id) g1), .int .i64 (selI (desOk wide id n && decide (n = 2)) (findP wide id) g2), .int .i64 (selI (desOk wide id n && decide (n = 3)) (findP wide id) g3), .int .i64 gl, .int .i64 gr, .int .i64 si]
  | 2, v, _ => v = .bool (desOk wide id n)
  | 3, v, _ => v = .bool (desOk wide id n)
  | 4, v, _ => v = .bool true
  | 5, _, w => w.heap[p]? = some (.cells #[.int .i64 (selI (desOk wide id n && decide (n = 0)) (findP wide id) g0), .int .i64 (selI (desOk wide id n && decide (n = 1)) (findP wide id) g1), .int .i64 (selI (desOk wide id n && decide (n = 2)) (findP wide id) g2), .int .i64 (selI (desOk wide id n && decide (n = 3)) (findP wide id) g3), .int .i64 gl, .int .i64 gr, .int .i64 si] 27 (0, 0))
  | 6, _, w => w.heap[q]? = some (.cells #[.int .i64 (selI (desOk wide id n && decide (n = 0)) (findP wide id) g0), .int .i64 (selI (desOk wide id n && decide (n = 1)) (findP wide id) g1), .int .i64 (selI (desOk wide id n && decide (n = 2)) (findP wide id) g2), .int .i64 (selI (desOk wide id n && decide (n = 3)) (findP wide id) g3), .int .i64 gl, .int .i64 gr, .int .i64 si] 24 (0, 0))
  | 7, v, _ => v = .bool true
  | _, _, _ => True
theorem Fdes.keep {p q b5 : Nat} {g0 g1 g2 g3 gl gr si n : Int} {wide : Bool} {id : ByteArray} {cd : Int} {j : Nat} {u : Value} {w w' : World} (h : Fdes p q b5 g0 g1 g2 g3 gl gr si n wide id cd j u w) (hp : j = 5 → w'.heap[p]? = w.heap[p]?) (hq : j = 6 → w'.heap[q]? = w.heap[q]?) : Fdes p q b5 g0 g1 g2 g3 gl gr si n wide id cd j u w' := by
  match j, h with
  | 0, h | 1, h | 2, h | 3, h | 4, h | 7, h => exact h
  | 5, h => exact (hp rfl).trans h
  | 6, h => exact (hq rfl).trans h
  | _ + 8, _ => exact trivial
theorem Fdes.gr {p q b5 : Nat} {g0 g1 g2 g3 gl gr si n : Int} {wide : Bool} {id : ByteArray} {cd : Int} {j : Nat} {u : Value} {w w' : World} (h : Fdes p q b5 g0 g1 g2 g3 gl gr si n wide id cd j u w) (hg : Gr w w') : Fdes p q b5 g0 g1 g2 g3 gl gr si n wide id cd j u w' := by
  match j, h with
  | 0, h | 1, h | 2, h | 3, h | 4, h | 7, h => exact h
  | 5, h => exact hg.blk h
  | 6, h => exact hg.blk h
  | _ + 8, _ => exact trivial
set_option maxRecDepth 100000 in
set_option maxHeartbeats 2000000 in
theorem do_des (g0 g1 g2 g3 gl gr si n : Int) (wide : Bool) (id : ByteArray) (cd : Int) (w : World) (hcd : 0 ≤ cd ∧ cd < 256) :
    Calls Try.prog 18 #[.agg #[.int .i64 g0, .int .i64 g1, .int .i64 g2, .int .i64 g3, .int .i64 gl, .int .i64 gr, .int .i64 si], .agg #[.int .i64 g0, .int .i64 g1, .int .i64 g2, .int .i64 g3, .int .i64 gl, .int .i64 gr, .int .i64 si], .agg #[.int .i64 1, .int .i64 n, .bool wide, .string id, .int .u8 cd]] w (DoIs w ⟨(selI (desOk wide id n && decide (n = 0)) (findP wide id) g0), (selI (desOk wide id n && decide (n = 1)) (findP wide id) g1), (selI (desOk wide id n && decide (n = 2)) (findP wide id) g2), (selI (desOk wide id n && decide (n = 3)) (findP wide id) g3), gl, gr, si⟩) := by
  go_enter Try.func18, Try.ntmps18
  go_wp2_with fail
  have hbl := do_blocks w #[.int .i64 g0, .int .i64 g1, .int .i64 g2, .int .i64 g3, .int .i64 gl, .int .i64 gr, .int .i64 si] #[.int .i64 g0, .int .i64 g1, .int .i64 g2, .int .i64 g3, .int .i64 gl, .int .i64 gr, .int .i64 si] #[.int .i64 1, .int .i64 n, .bool wide, .string id, .int .u8 cd] #[.int .i64 0, .int .i64 0, .int .i64 0, .int .i64 0, .int .i64 0, .int .i64 0, .int .i64 0] #[.int .i64 0, .int .i64 0, .int .i64 0, .int .i64 0, .int .i64 0, .int .i64 0, .int .i64 0] 27 24 46 27 24
  obtain ⟨w0, hw0e⟩ : ∃ w0, w0 = (((((w.alloc (.cells #[.int .i64 g0, .int .i64 g1, .int .i64 g2, .int .i64 g3, .int .i64 gl, .int .i64 gr, .int .i64 si] 27)).alloc (.cells #[.int .i64 g0, .int .i64 g1, .int .i64 g2, .int .i64 g3, .int .i64 gl, .int .i64 gr, .int .i64 si] 24)).alloc (.cells #[.int .i64 1, .int .i64 n, .bool wide, .string id, .int .u8 cd] 46)).alloc (.cells #[.int .i64 0, .int .i64 0, .int .i64 0, .int .i64 0, .int .i64 0, .int .i64 0, .int .i64 0] 27)).alloc (.cells #[.int .i64 0, .int .i64 0, .int .i64 0, .int .i64 0, .int .i64 0, .int .i64 0, .int .i64 0] 24)) := ⟨_, rfl⟩
  rw [← hw0e] at hbl ⊢
  clear hw0e
  obtain ⟨hgw, h3, h4, h5, h6, h7⟩ := hbl
  obtain ⟨s0, hs0⟩ : ∃ s0, s0 = w.heap.size := ⟨_, rfl⟩
  have hs1 : w.heap.size ≤ s0 := by omega
  rw [← hs0] at h3 h4 h5 h6 h7 ⊢
  clear hs0
  have hB0 : BaseP w0 (s0 + 3) (s0 + 4) w0 := ⟨⟨rfl, rfl, rfl, Nat.le_refl _, fun _ _ _ => rfl⟩, ⟨_, rfl, h6⟩, _, rfl, h7⟩
  have hpq : s0 + 3 ≠ s0 + 4 := by omega
  refine (des_any _ _ _ _ _ _ _ _ _ _ _).mono ?_
  rintro e w1 ⟨rfl, hg1⟩
  have c4 := cells7 (hg1.blk h4)
  have c5 := cells5 (hg1.blk h5)
  have hl1 := blk_lt0 (hg1.blk h7)
  have hl10 : s0 < w1.heap.size := by omega
  have hl11 : s0 + 1 < w1.heap.size := by omega
  have hl12 : s0 + 2 < w1.heap.size := by omega
  go_wp2_with fail
  refine (rdes_any _ _ _ _ _ _ _ _ _ _ _).mono ?_
  rintro e w2 ⟨rfl, hg2⟩
  have hl2 := hg2.size
  simp at hl2
  go_wp2_with fail
  have h14a := hg2.blk (heap_alloc_new w1 (.cells #[.int .i64 (selI (desOk wide id n && decide (n = 0)) (findP wide id) g0), .int .i64 (selI (desOk wide id n && decide (n = 1)) (findP wide id) g1), .int .i64 (selI (desOk wide id n && decide (n = 2)) (findP wide id) g2), .int .i64 (selI (desOk wide id n && decide (n = 3)) (findP wide id) g3), .int .i64 gl, .int .i64 gr, .int .i64 si] 27))
  obtain ⟨wA, hwA⟩ : ∃ wA, wA = w2.alloc (.cells #[.int .i64 (selI (desOk wide id n && decide (n = 0)) (findP wide id) g0), .int .i64 (selI (desOk wide id n && decide (n = 1)) (findP wide id) g1), .int .i64 (selI (desOk wide id n && decide (n = 2)) (findP wide id) g2), .int .i64 (selI (desOk wide id n && decide (n = 3)) (findP wide id) g3), .int .i64 gl, .int .i64 gr, .int .i64 si] 24) := ⟨_, rfl⟩
  have h16 : wA.heap[w2.heap.size]? = some (.cells #[.int .i64 (selI (desOk wide id n && decide (n = 0)) (findP wide id) g0), .int .i64 (selI (desOk wide id n && decide (n = 1)) (findP wide id) g1), .int .i64 (selI (desOk wide id n && decide (n = 2)) (findP wide id) g2), .int .i64 (selI (desOk wide id n && decide (n = 3)) (findP wide id) g3), .int .i64 gl, .int .i64 gr, .int .i64 si] 24 (0, 0)) := by rw [hwA]; exact heap_alloc_new _ _
  have hg3 : Gr w2 wA := by rw [hwA]; exact (Gr.refl _).alloc _
  rw [← hwA]
  clear hwA
  have h14 := hg3.blk h14a
  have hg02 : Gr w0 wA := (hg1.trans ((Gr.refl w1).alloc _)).trans (hg2.trans hg3)
  have hgA : Gr w wA := hgw.trans hg02
  have hBA : BaseP wA (s0 + 3) (s0 + 4) wA := ⟨⟨rfl, rfl, rfl, Nat.le_refl _, fun _ _ _ => rfl⟩, ⟨_, rfl, hg02.blk h6⟩, _, rfl, hg02.blk h7⟩
  obtain ⟨b14, hb14⟩ : ∃ b, b = w1.heap.size := ⟨_, rfl⟩
  obtain ⟨b16, hb16⟩ : ∃ b, b = w2.heap.size := ⟨_, rfl⟩
  clear hl10 hl11 hl12
  rw [← hb14] at h14 hl1 hl2 ⊢
  rw [← hb16] at h16 hl2 ⊢
  clear hb14 hb16 h14a hg1 hg2 hg3 hg02 c4 c5 hgw
  refine wp_region_facts3 (Fdes (s0 + 3) (s0 + 4) (s0 + 2) g0 g1 g2 g3 gl gr si n wide id cd) (BaseP wA (s0 + 3) (s0 + 4)) (by kernel_rfl) (by kernel_rfl) (by kernel_rfl) (hBA.gr ((Gr.refl _).drew)) ?_ ?_
  · refine Steps.cons1 1 rfl rfl ?_ (Steps.cons1 2 rfl rfl ?_ (Steps.cons1 3 rfl rfl ?_ (Steps.cons1 4 rfl rfl ?_ (Steps.cons1 5 rfl rfl ?_ (Steps.cons1 6 rfl rfl ?_ (Steps.cons1 7 rfl rfl ?_ (Steps.cons1 8 rfl rfl ?_ (Steps.nil))))))))
    · (intro ys w' hB hP; simp only [Preds, Region.binds, Fdes, forall_const, and_true, true_and] at hP)
      have c7 := cells7 (hB.old h14 (by omega) (by omega))
      intro K hK
      simp only [fillA]
      go_simp
      have h2 := hK _ w' hB rfl (fun j u _ h => h)
      simp [fillA, Act.put, hP] at h2
      exact h2
    · (intro ys w' hB hP; simp only [Preds, Region.binds, Fdes, forall_const, and_true, true_and] at hP)
      have c7 := cells7 (hB.old h16 (by omega) (by omega))
      intro K hK
      simp only [fillA]
      go_simp
      have h2 := hK _ w' hB rfl (fun j u _ h => h)
      simp [fillA, Act.put, hP] at h2
      exact h2
    · (intro ys w' hB hP K hK; simp only [Preds, Region.binds, Fdes, forall_const, and_true, true_and] at hP; simp only [fillA]; go_simp; (have h2 := fun v => hK v w' hB); simp only [Fdes, forall_eq] at h2; (have h2 := h2 (fun _ _ _ h => h)); simp [fillA, Act.put, hP] at h2; exact h2)
    · (intro ys w' hB hP K hK; simp only [Preds, Region.binds, Fdes, forall_const, and_true, true_and] at hP; simp only [fillA]; go_simp; (have h2 := fun v => hK v w' hB); simp only [Fdes, forall_eq] at h2; (have h2 := h2 (fun _ _ _ h => h)); simp [fillA, Act.put, hP] at h2; exact h2)
    · (intro ys w' hB hP K hK; simp only [Preds, Region.binds, Fdes, forall_const, and_true, true_and] at hP; simp only [fillA]; go_simp; (have h2 := fun v => hK v w' hB); simp only [Fdes, forall_eq] at h2; (have h2 := h2 (fun _ _ _ h => h)); simp [fillA, Act.put, hP] at h2; exact h2)
    · (intro ys w' hB hP; simp only [Preds, Region.binds, Fdes, forall_const, and_true, true_and] at hP)
      obtain ⟨cs, hcs, hblk⟩ := hB.2.1
      have hv : ys 0 = .agg #[.int .i64 (selI (desOk wide id n && decide (n = 0)) (findP wide id) g0), .int .i64 (selI (desOk wide id n && decide (n = 1)) (findP wide id) g1), .int .i64 (selI (desOk wide id n && decide (n = 2)) (findP wide id) g2), .int .i64 (selI (desOk wide id n && decide (n = 3)) (findP wide id) g3), .int .i64 gl, .int .i64 gr, .int .i64 si] := by simp [hP]
      have hs := setRow_heap w' (s0 + 3) cs #[.int .i64 (selI (desOk wide id n && decide (n = 0)) (findP wide id) g0), .int .i64 (selI (desOk wide id n && decide (n = 1)) (findP wide id) g1), .int .i64 (selI (desOk wide id n && decide (n = 2)) (findP wide id) g2), .int .i64 (selI (desOk wide id n && decide (n = 3)) (findP wide id) g3), .int .i64 gl, .int .i64 gr, .int .i64 si] 27 (0, 0) hblk
      have hB2 := hB.setp hpq rfl hs setRow_upd
      intro K hK
      simp only [fillA]
      with_reducible refine wp_store_row 27 (.tmp 6) (.tmp 43) ?ho5 (s0 + 3) #[.int .i64 (selI (desOk wide id n && decide (n = 0)) (findP wide id) g0), .int .i64 (selI (desOk wide id n && decide (n = 1)) (findP wide id) g1), .int .i64 (selI (desOk wide id n && decide (n = 2)) (findP wide id) g2), .int .i64 (selI (desOk wide id n && decide (n = 3)) (findP wide id) g3), .int .i64 gl, .int .i64 gr, .int .i64 si] ?hx5 ?hy5 27 cs hblk ?hi5 ?hc5 ?h15 ?hh5
      case ho5 => rfl
      case hx5 => simp [Act.eval, Act.put]
      case hy5 => simp [Act.eval, Act.put, hv]
      case hi5 => kernel_rfl
      case hc5 => exact hcs
      case h15 => simp [Value.oneCell']
      case hh5 =>
        have h2 := hK undef (w'.setRow (s0 + 3) #[.int .i64 (selI (desOk wide id n && decide (n = 0)) (findP wide id) g0), .int .i64 (selI (desOk wide id n && decide (n = 1)) (findP wide id) g1), .int .i64 (selI (desOk wide id n && decide (n = 2)) (findP wide id) g2), .int .i64 (selI (desOk wide id n && decide (n = 3)) (findP wide id) g3), .int .i64 gl, .int .i64 gr, .int .i64 si]) hB2 hs (fun j u hj h => h.keep (fun e => absurd e hj) (fun e => setRow_other _ _ _ _ hpq.symm))
        exact h2
    · (intro ys w' hB hP; simp only [Preds, Region.binds, Fdes, forall_const, and_true, true_and] at hP)
      obtain ⟨cs, hcs, hblk⟩ := hB.2.2
      have hv : ys 1 = .agg #[.int .i64 (selI (desOk wide id n && decide (n = 0)) (findP wide id) g0), .int .i64 (selI (desOk wide id n && decide (n = 1)) (findP wide id) g1), .int .i64 (selI (desOk wide id n && decide (n = 2)) (findP wide id) g2), .int .i64 (selI (desOk wide id n && decide (n = 3)) (findP wide id) g3), .int .i64 gl, .int .i64 gr, .int .i64 si] := by simp [hP]
      have hs := setRow_heap w' (s0 + 4) cs #[.int .i64 (selI (desOk wide id n && decide (n = 0)) (findP wide id) g0), .int .i64 (selI (desOk wide id n && decide (n = 1)) (findP wide id) g1), .int .i64 (selI (desOk wide id n && decide (n = 2)) (findP wide id) g2), .int .i64 (selI (desOk wide id n && decide (n = 3)) (findP wide id) g3), .int .i64 gl, .int .i64 gr, .int .i64 si] 24 (0, 0) hblk
      have hB2 := hB.setq hpq rfl hs setRow_upd
      intro K hK
      simp only [fillA]
      with_reducible refine wp_store_row 24 (.tmp 7) (.tmp 44) ?ho6 (s0 + 4) #[.int .i64 (selI (desOk wide id n && decide (n = 0)) (findP wide id) g0), .int .i64 (selI (desOk wide id n && decide (n = 1)) (findP wide id) g1), .int .i64 (selI (desOk wide id n && decide (n = 2)) (findP wide id) g2), .int .i64 (selI (desOk wide id n && decide (n = 3)) (findP wide id) g3), .int .i64 gl, .int .i64 gr, .int .i64 si] ?hx6 ?hy6 24 cs hblk ?hi6 ?hc6 ?h16 ?hh6
      case ho6 => rfl
      case hx6 => simp [Act.eval, Act.put]
      case hy6 => simp [Act.eval, Act.put, hv]
      case hi6 => kernel_rfl
      case hc6 => exact hcs
      case h16 => simp [Value.oneCell']
      case hh6 =>
        have h2 := hK undef (w'.setRow (s0 + 4) #[.int .i64 (selI (desOk wide id n && decide (n = 0)) (findP wide id) g0), .int .i64 (selI (desOk wide id n && decide (n = 1)) (findP wide id) g1), .int .i64 (selI (desOk wide id n && decide (n = 2)) (findP wide id) g2), .int .i64 (selI (desOk wide id n && decide (n = 3)) (findP wide id) g3), .int .i64 gl, .int .i64 gr, .int .i64 si]) hB2 hs (fun j u hj h => h.keep (fun e => setRow_other _ _ _ _ hpq) (fun e => absurd e hj))
        exact h2
    · (intro ys w' hB hP K hK; simp only [Preds, Region.binds, Fdes, forall_const, and_true, true_and] at hP; simp only [fillA]; go_simp; (have h2 := fun v => hK v w' hB); simp only [Fdes, forall_eq] at h2; (have h2 := h2 (fun _ _ _ h => h)); simp [fillA, Act.put, hP] at h2; exact h2)
  · intro ys w' hB hF
    have f0 : ys 0 = _ := hF 0 (by decide)
    have f1 : ys 1 = _ := hF 1 (by decide)
    have f2 : ys 2 = _ := hF 2 (by decide)
    have f3 : ys 3 = _ := hF 3 (by decide)
    have f4 : ys 4 = _ := hF 4 (by decide)
    have f5 : _ = _ := hF 5 (by decide)
    have f6 : _ = _ := hF 6 (by decide)
    have f7 : ys 7 = _ := hF 7 (by decide)
    clear hF
    have r1 := cells7 f5
    have r2 := cells7 f6
    simp only [fillA, f0, f1, f2, f3, f4, f7]
    clear f0 f1 f2 f3 f4 f5 f6 f7
    go_wp2_with fail
    exact bodyPost_ret (v := .tuple #[.agg #[.int .i64 (selI (desOk wide id n && decide (n = 0)) (findP wide id) g0), .int .i64 (selI (desOk wide id n && decide (n = 1)) (findP wide id) g1), .int .i64 (selI (desOk wide id n && decide (n = 2)) (findP wide id) g2), .int .i64 (selI (desOk wide id n && decide (n = 3)) (findP wide id) g3), .int .i64 gl, .int .i64 gr, .int .i64 si], .agg #[.int .i64 (selI (desOk wide id n && decide (n = 0)) (findP wide id) g0), .int .i64 (selI (desOk wide id n && decide (n = 1)) (findP wide id) g1), .int .i64 (selI (desOk wide id n && decide (n = 2)) (findP wide id) g2), .int .i64 (selI (desOk wide id n && decide (n = 3)) (findP wide id) g3), .int .i64 gl, .int .i64 gr, .int .i64 si], .bool true]) (by simp [results, Try.results18, go_sem, *]) rfl ⟨rfl, hB.fin hgA (by omega) (by omega)⟩

theorem do_any (X : S7) (k n : Int) (wide : Bool) (id : ByteArray) (cd : Int) (w : World) (hcd : 0 ≤ cd ∧ cd < 256) :
    Calls Try.prog 18 #[.agg X.cells, .agg X.cells, .agg #[.int .i64 k, .int .i64 n, .bool wide, .string id, .int .u8 cd]] w (DoIs w (doS k n wide id cd X)) := by
  obtain ⟨g0, g1, g2, g3, gl, gr, si⟩ := X
  by_cases h1 : k = 1
  · subst h1; exact do_des g0 g1 g2 g3 gl gr si n wide id cd w hcd
  by_cases h2 : k = 2
  · subst h2; exact do_left g0 g1 g2 g3 gl gr si n wide id cd w hcd
  by_cases h3 : k = 3
  · subst h3; exact do_right g0 g1 g2 g3 gl gr si n wide id cd w hcd
  by_cases h4 : k = 4
  · subst h4; exact do_once g0 g1 g2 g3 gl gr si n wide id cd w hcd
  by_cases h5 : k = 5
  · subst h5; exact do_map g0 g1 g2 g3 gl gr si n wide id cd w hcd
  have e : doS k n wide id cd ⟨g0, g1, g2, g3, gl, gr, si⟩ = ⟨g0, g1, g2, g3, gl, gr, si⟩ := by
    unfold doS; rw [if_neg h1, if_neg h2, if_neg h3, if_neg h4, if_neg h5]
  rw [e]
  exact do_none g0 g1 g2 g3 gl gr si n wide id cd k w (by simpa using h1) (by simpa using h2) (by simpa using h3) (by simpa using h4) (by simpa using h5) hcd
end Go.Proofs.Ytomflpkokcldeaa
