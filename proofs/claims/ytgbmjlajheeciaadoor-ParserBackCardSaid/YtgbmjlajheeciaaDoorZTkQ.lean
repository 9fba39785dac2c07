/-
  A token of the program's own, made of one that came in: Own, walked.
-/
import Derived.Laws.Tables
import Derived.Test.YtgbmjlajheeciaaDoorZTkP
import Derived.Test.YtgbmjlajheeciaaDoorZSrcN
namespace Go.Proofs.YtgbmjlajheeciaaDoor
set_option linter.unusedSimpArgs false
set_option linter.unusedVariables false
open Go.RowKit
set_option linter.unusedVariables false

theorem intsT : Tryd.prog.underlying 22 = some (.slice 3) := Tryd.underlying22
theorem intI : (Tryd.prog.info? 3).map (fun i => (i.zero, i.size, i.bytes)) = some (some (.int .i64 0), 1, 8) := by kernel_rfl
theorem src_rd {P : Program} {t e : TypeId} (ht : P.underlying t = some (.slice e)) {w : World} {a : Option Addr} {n cap : Nat} {xs : List Value} (h : Rd w a n xs) (h1 : ∀ c ∈ xs, c.oneCell' = true) : Src P 1 t (.slice a n cap) n xs w := by
  have hl := h.1
  cases a with
  | none =>
    rcases h.2 with h0 | ⟨b, off, hb, _⟩
    · subst h0
      have : xs = [] := List.eq_nil_of_length_eq_zero hl
      subst this
      exact src_nil ht cap
    · cases hb
  | some x =>
    refine Src.ofSlice w ht x n cap xs (by omega) (fun j v hv => ?_) h1
    have hj : j < xs.length := (List.getElem?_eq_some_iff.1 hv).1
    rcases h.2 with h0 | ⟨b, off, hb, hc⟩
    · omega
    · injection hb with hb
      subst hb
      have e : (⟨b, off, none⟩ : Addr).add j = ⟨b, off + j, none⟩ := by rcases j with _ | j <;> simp [Addr.add]
      rw [e]
      exact hc j v hv

/-- A token whose numbers and bytes are memory of its own, from B on. -/
structure OTok (B : Nat) (w : World) (t : Tok) (q : Value × Value) : Prop where
  params : w.ownsRow B 3 1 q.1 t.params.length (icells t.params)
  data : w.ownsRow B 5 1 q.2 t.data.length (bcells t.data)
theorem OTok.gr {B : Nat} {w w' : World} {t : Tok} {q : Value × Value} (h : OTok B w t q) (hg : Gr w w') : OTok B w' t q := ⟨ownsRow_gr h.params hg, ownsRow_gr h.data hg⟩
theorem OTok.r {B : Nat} {w : World} {t : Tok} {q : Value × Value} (h : OTok B w t q) : RTok w t q := ⟨HasRow.of_own h.params, HasRow.of_own h.data⟩
/-- What Own gives. -/
def OwnOut (w : World) (t : Tok) (e : Ending) (w' : World) : Prop := ∃ q, e = .returned (.agg (tcells t q).toArray) ∧ OTok w.heap.size w' t q ∧ Gr w w'

def ownF (w : World) (k c m : Int) (v1 : Value) (n1 : Nat) (ps : List Int) (s : ByteArray) (v2 : Value) (n2 : Nat) (d : List Int) : Nat → Value → World → Prop
  | 0, v, _ => v = .pointer (some ⟨w.heap.size, 0, none⟩)
  | 1, v, _ => v = .int .i64 k
  | 2, v, _ => v = .pointer (some ⟨w.heap.size, 1, none⟩)
  | 3, v, _ => v = .int .u8 c
  | 4, v, _ => v = .pointer (some ⟨w.heap.size, 2, none⟩)
  | 5, v, _ => v = .int .u8 m
  | 6, v, w' => ∃ g, v = .slice (some ⟨g, 0, none⟩) 0 0 ∧ w.heap.size + 2 ≤ g ∧ w'.heap[g]? = some (.cells #[] 3 (0, 0))
  | 7, v, _ => v = .pointer (some ⟨w.heap.size, 3, none⟩)
  | 8, v, _ => v = v1
  | 9, v, w' => ∃ va cap, v = .slice va n1 cap ∧ w'.ownsRow (w.heap.size + 2) 3 1 (.slice va n1 cap) n1 (icells ps)
  | 10, v, _ => v = .pointer (some ⟨w.heap.size, 4, none⟩)
  | 11, v, _ => v = .string s
  | 12, v, w' => ∃ g, v = .slice (some ⟨g, 0, none⟩) 0 0 ∧ w.heap.size + 2 ≤ g ∧ w'.heap[g]? = some (.cells #[] 5 (0, 0))
  | 13, v, _ => v = .pointer (some ⟨w.heap.size, 5, none⟩)
  | 14, v, _ => v = v2
  | 15, v, w' => ∃ va cap, v = .slice va n2 cap ∧ w'.ownsRow (w.heap.size + 2) 5 1 (.slice va n2 cap) n2 (bcells d)
  | 16, v, w' => ∃ va ca vb cb, v = .agg #[.int .i64 k, .int .u8 c, .int .u8 m, .slice va n1 ca, .string s, .slice vb n2 cb] ∧ w'.ownsRow (w.heap.size + 2) 3 1 (.slice va n1 ca) n1 (icells ps) ∧ w'.ownsRow (w.heap.size + 2) 5 1 (.slice vb n2 cb) n2 (bcells d)
  | 17, _, w' => ∃ va ca vb cb, w'.heap[w.heap.size + 1]? = some (.cells #[.int .i64 k, .int .u8 c, .int .u8 m, .slice va n1 ca, .string s, .slice vb n2 cb] 27 (0, 0)) ∧ w'.ownsRow (w.heap.size + 2) 3 1 (.slice va n1 ca) n1 (icells ps) ∧ w'.ownsRow (w.heap.size + 2) 5 1 (.slice vb n2 cb) n2 (bcells d)
  | _, _, _ => True
def ownB (w : World) (k c m : Int) (v1 : Value) (s : ByteArray) (v2 : Value) (w' : World) : Prop := Gr w w' ∧ w.heap.size + 2 ≤ w'.heap.size ∧ w'.heap[w.heap.size]? = some (.cells #[.int .i64 k, .int .u8 c, .int .u8 m, v1, .string s, v2] 25 (0, 0)) ∧ ∃ cs, cs.size = 6 ∧ w'.heap[w.heap.size + 1]? = some (.cells cs 27 (0, 0))
theorem ownB.gr {w w1 w2 : World} {k c m : Int} {v1 v2 : Value} {s : ByteArray} (h : ownB w k c m v1 s v2 w1) (hg : Gr w1 w2) : ownB w k c m v1 s v2 w2 := by
  obtain ⟨h1, h2, h3, cs, h4, h5⟩ := h
  exact ⟨h1.trans hg, Nat.le_trans h2 hg.size, hg.blk h3, cs, h4, hg.blk h5⟩
theorem ownF.gr {w w1 w2 : World} {k c m : Int} {v1 v2 : Value} {n1 n2 : Nat} {ps d : List Int} {s : ByteArray} {v : Value} {j : Nat} (h : ownF w k c m v1 n1 ps s v2 n2 d j v w1) (hg : Gr w1 w2) : ownF w k c m v1 n1 ps s v2 n2 d j v w2 := by
  unfold ownF at h ⊢
  split <;> first | exact h | skip
  · obtain ⟨g, a, b, e⟩ := h; exact ⟨g, a, b, hg.blk e⟩
  · obtain ⟨va, ca, e, h⟩ := h; exact ⟨va, ca, e, ownsRow_gr h hg⟩
  · obtain ⟨g, a, b, e⟩ := h; exact ⟨g, a, b, hg.blk e⟩
  · obtain ⟨va, ca, e, h⟩ := h; exact ⟨va, ca, e, ownsRow_gr h hg⟩
  · obtain ⟨va, ca, vb, cb, e, h1, h2⟩ := h; exact ⟨va, ca, vb, cb, e, ownsRow_gr h1 hg, ownsRow_gr h2 hg⟩
  · obtain ⟨va, ca, vb, cb, e, h1, h2⟩ := h; exact ⟨va, ca, vb, cb, hg.blk e, ownsRow_gr h1 hg, ownsRow_gr h2 hg⟩
  · trivial
theorem own_far {w : World} {B e n T : Nat} {v : Value} {xs : List Value} (h : w.ownsRow B e 1 v n xs) (hT : T < B) (cs : Array Value) : (w.setRow T cs).ownsRow B e 1 v n xs :=
  ownsRow_same h fun k hk => setRow_other w T k cs (by have := ownsRow_base h hk; omega)
theorem ownF.set {w w1 : World} {k c m : Int} {v1 v2 : Value} {n1 n2 : Nat} {ps d : List Int} {s : ByteArray} {v : Value} {j : Nat} (hj : j ≠ 17) (h : ownF w k c m v1 n1 ps s v2 n2 d j v w1) (cs : Array Value) : ownF w k c m v1 n1 ps s v2 n2 d j v (w1.setRow (w.heap.size + 1) cs) := by
  unfold ownF at h ⊢
  split <;> first | exact h | skip
  · obtain ⟨g, a, b, e⟩ := h; exact ⟨g, a, b, by rw [setRow_other _ _ _ _ (by omega)]; exact e⟩
  · obtain ⟨va, ca, e, h⟩ := h; exact ⟨va, ca, e, own_far h (by omega) _⟩
  · obtain ⟨g, a, b, e⟩ := h; exact ⟨g, a, b, by rw [setRow_other _ _ _ _ (by omega)]; exact e⟩
  · obtain ⟨va, ca, e, h⟩ := h; exact ⟨va, ca, e, own_far h (by omega) _⟩
  · obtain ⟨va, ca, vb, cb, e, h1, h2⟩ := h; exact ⟨va, ca, vb, cb, e, own_far h1 (by omega) _, own_far h2 (by omega) _⟩
  · exact absurd rfl hj
  · trivial

set_option maxRecDepth 100000 in
set_option maxHeartbeats 2000000 in
theorem own_walk {w : World} {k c m : Int} {a1 a2 : Option Addr} {n1 c1 n2 c2 : Nat} {ps l d : List Int} (hp : Rd w a1 n1 (icells ps)) (hd : Rd w a2 n2 (bcells d)) (b1 : n1 * 8 ≤ 140737488355328) (b2 : n2 ≤ 140737488355328) :
    Calls Tryd.prog 9 #[.agg #[.int .i64 k, .int .u8 c, .int .u8 m, .slice a1 n1 c1, .string (strOf l), .slice a2 n2 c2]] w (OwnOut w ⟨k, c, m, ps, l, d⟩) := by
  obtain ⟨s, hs⟩ : ∃ s, s = strOf l := ⟨_, rfl⟩
  have hpl : ps.length = n1 := by simpa [icells] using hp.1
  have hdl : d.length = n2 := by simpa [bcells] using hd.1
  have HS := Lib.hid hs
  have HP := Lib.hid hpl
  have HD := Lib.hid hdl
  have hp1 := fun (w' : World) (hg : Gr w w') => src_rd intsT (cap := c1) (hp.gr hg) (icells_one ps)
  have hd1 := fun (w' : World) (hg : Gr w w') => src_rd bytesT (cap := c2) (hd.gr hg) (bcells_one d)
  rw [← hs]
  clear hs hpl hdl hp hd
  go_enter Tryd.func9, Tryd.ntmps9
  go_wp2_with fail
  refine wp_region_facts (ownF w k c m (.slice a1 n1 c1) n1 ps s (.slice a2 n2 c2) n2 d) (ownB w k c m (.slice a1 n1 c1) s (.slice a2 n2 c2)) (by kernel_rfl) (by kernel_rfl) (by kernel_rfl) ?_ ?_ ?_
  · refine ⟨by (repeat (first | with_reducible exact Gr.refl _ | with_reducible assumption | with_reducible refine Gr.setCell ?_ (by simp; try omega) _ | with_reducible refine Gr.alloc ?_ _ | with_reducible refine Gr.drew ?_ | with_reducible refine Gr.drewN ?_ _ | with_reducible refine Gr.trans ?_ (by assumption))), by simp, ?_, ?_⟩
    · exact (((Gr.refl _).alloc _).drew).blk (heap_alloc_new w _)
    · exact ⟨_, rfl, ((Gr.refl _).drew).blk (heap_new2 w _ _)⟩
  · refine Steps.cons1 1 rfl rfl ?_ (Steps.cons1 2 rfl rfl ?_ (Steps.cons1 3 rfl rfl ?_ (Steps.cons1 4 rfl rfl ?_ (Steps.cons1 5 rfl rfl ?_ (Steps.cons1 6 rfl rfl ?_ (Steps.cons1 7 rfl rfl ?_ (Steps.cons1 8 rfl rfl ?_ (Steps.cons1 9 rfl rfl ?_ (Steps.cons1 10 rfl rfl ?_ (Steps.cons1 11 rfl rfl ?_ (Steps.cons1 12 rfl rfl ?_ (Steps.cons1 13 rfl rfl ?_ (Steps.cons1 14 rfl rfl ?_ (Steps.cons1 15 rfl rfl ?_ (Steps.cons1 16 rfl rfl ?_ (Steps.cons1 17 rfl rfl ?_ (Steps.cons1 18 rfl rfl ?_ (Steps.nil))))))))))))))))))
    · (intro ys w' hB hP K hK; simp only [Preds, Region.binds, ownF, forall_const, and_true, true_and] at hP; simp only [fillA]; go_simp; (have h2 := fun v => hK v w' hB); simp only [ownF, forall_eq] at h2; (have h2 := h2 (fun _ _ _ h => h)); simp [fillA, Act.put, hP] at h2; exact h2)
    · (intro ys w' hB hP; simp only [Preds, Region.binds, ownF, forall_const, and_true, true_and] at hP)
      have q := cell_of_row hB.2.2.1 0 _ rfl
      intro K hK
      simp only [fillA]
      go_simp
      have h2 := fun v => hK v w' hB
      simp only [ownF, forall_eq] at h2
      have h2 := h2 (fun _ _ _ h => h)
      simp [fillA, Act.put, hP] at h2
      exact h2
    · (intro ys w' hB hP K hK; simp only [Preds, Region.binds, ownF, forall_const, and_true, true_and] at hP; simp only [fillA]; go_simp; (have h2 := fun v => hK v w' hB); simp only [ownF, forall_eq] at h2; (have h2 := h2 (fun _ _ _ h => h)); simp [fillA, Act.put, hP] at h2; exact h2)
    · (intro ys w' hB hP; simp only [Preds, Region.binds, ownF, forall_const, and_true, true_and] at hP)
      have q := cell_of_row hB.2.2.1 1 _ rfl
      intro K hK
      simp only [fillA]
      go_simp
      have h2 := fun v => hK v w' hB
      simp only [ownF, forall_eq] at h2
      have h2 := h2 (fun _ _ _ h => h)
      simp [fillA, Act.put, hP] at h2
      exact h2
    · (intro ys w' hB hP K hK; simp only [Preds, Region.binds, ownF, forall_const, and_true, true_and] at hP; simp only [fillA]; go_simp; (have h2 := fun v => hK v w' hB); simp only [ownF, forall_eq] at h2; (have h2 := h2 (fun _ _ _ h => h)); simp [fillA, Act.put, hP] at h2; exact h2)
    · (intro ys w' hB hP; simp only [Preds, Region.binds, ownF, forall_const, and_true, true_and] at hP)
      have q := cell_of_row hB.2.2.1 2 _ rfl
      intro K hK
      simp only [fillA]
      go_simp
      have h2 := fun v => hK v w' hB
      simp only [ownF, forall_eq] at h2
      have h2 := h2 (fun _ _ _ h => h)
      simp [fillA, Act.put, hP] at h2
      exact h2
    · (intro ys w' hB hP; simp only [Preds, Region.binds, ownF, forall_const, and_true, true_and] at hP)
      have hz := hB.2.1
      intro K hK
      simp only [fillA]
      go_simp
      have h2 := hK (.slice (some ⟨w'.heap.size, 0, none⟩) 0 0) (w'.alloc (.cells #[] 3)) (hB.gr ((Gr.refl _).alloc _)) ⟨_, rfl, hz, heap_alloc_new _ _⟩ (fun j u _ h => h.gr ((Gr.refl _).alloc _))
      simp [fillA, Act.put, hP] at h2
      exact h2
    · (intro ys w' hB hP K hK; simp only [Preds, Region.binds, ownF, forall_const, and_true, true_and] at hP; simp only [fillA]; go_simp; (have h2 := fun v => hK v w' hB); simp only [ownF, forall_eq] at h2; (have h2 := h2 (fun _ _ _ h => h)); simp [fillA, Act.put, hP] at h2; exact h2)
    · (intro ys w' hB hP; simp only [Preds, Region.binds, ownF, forall_const, and_true, true_and] at hP)
      have q := cell_of_row hB.2.2.1 3 _ rfl
      intro K hK
      simp only [fillA]
      go_simp
      have h2 := fun v => hK v w' hB
      simp only [ownF, forall_eq] at h2
      have h2 := h2 (fun _ _ _ h => h)
      simp [fillA, Act.put, hP] at h2
      exact h2
    · (intro ys w' hB hP; simp only [Preds, Region.binds, ownF, forall_const, and_true, true_and] at hP)
      obtain ⟨g, h6, hge, hgb⟩ : ∃ g, ys 6 = .slice (some ⟨g, 0, none⟩) 0 0 ∧ w.heap.size + 2 ≤ g ∧ w'.heap[g]? = some (.cells #[] 3 (0, 0)) := by first | simpa using hP.1 | simpa using hP
      have hB1 := hB.1
      have h8 : ys 8 = .slice a1 n1 c1 := by first | simpa using hP.2 | simpa using hP.2.1
      intro K hK
      with_reducible refine wp_new (.tmp 9) (.tmp 11) 22 22 ?ho9 3 (.int .i64 0) 8 intsT intI ?hz9 g ?hx9 hgb (.slice a1 n1 c1) n1 (icells ps) ?hy9 (hp1 w' hB1) ?h639 ?hb9 ?hh9
      case ho9 => rfl
      case hz9 => rfl
      case hx9 => simp [Act.eval, fillA, Act.put, h6]
      case hy9 => simp [Act.eval, fillA, Act.put, h8]
      case h639 => unfold maxLen; omega
      case hb9 => exact b1
      case hh9 =>
        intro va cap w2 hown hg2
        exact hK (.slice va n1 cap) w2 (hB.gr hg2) ⟨va, cap, rfl, World.ownsRow.mono hown (by omega)⟩ (fun j u _ h => h.gr hg2)
    · (intro ys w' hB hP K hK; simp only [Preds, Region.binds, ownF, forall_const, and_true, true_and] at hP; simp only [fillA]; go_simp; (have h2 := fun v => hK v w' hB); simp only [ownF, forall_eq] at h2; (have h2 := h2 (fun _ _ _ h => h)); simp [fillA, Act.put, hP] at h2; exact h2)
    · (intro ys w' hB hP; simp only [Preds, Region.binds, ownF, forall_const, and_true, true_and] at hP)
      have q := cell_of_row hB.2.2.1 4 _ rfl
      intro K hK
      simp only [fillA]
      go_simp
      have h2 := fun v => hK v w' hB
      simp only [ownF, forall_eq] at h2
      have h2 := h2 (fun _ _ _ h => h)
      simp [fillA, Act.put, hP] at h2
      exact h2
    · (intro ys w' hB hP; simp only [Preds, Region.binds, ownF, forall_const, and_true, true_and] at hP)
      have hz := hB.2.1
      intro K hK
      simp only [fillA]
      go_simp
      have h2 := hK (.slice (some ⟨w'.heap.size, 0, none⟩) 0 0) (w'.alloc (.cells #[] 5)) (hB.gr ((Gr.refl _).alloc _)) ⟨_, rfl, hz, heap_alloc_new _ _⟩ (fun j u _ h => h.gr ((Gr.refl _).alloc _))
      simp [fillA, Act.put, hP] at h2
      exact h2
    · (intro ys w' hB hP K hK; simp only [Preds, Region.binds, ownF, forall_const, and_true, true_and] at hP; simp only [fillA]; go_simp; (have h2 := fun v => hK v w' hB); simp only [ownF, forall_eq] at h2; (have h2 := h2 (fun _ _ _ h => h)); simp [fillA, Act.put, hP] at h2; exact h2)
    · (intro ys w' hB hP; simp only [Preds, Region.binds, ownF, forall_const, and_true, true_and] at hP)
      have q := cell_of_row hB.2.2.1 5 _ rfl
      intro K hK
      simp only [fillA]
      go_simp
      have h2 := fun v => hK v w' hB
      simp only [ownF, forall_eq] at h2
      have h2 := h2 (fun _ _ _ h => h)
      simp [fillA, Act.put, hP] at h2
      exact h2
    · (intro ys w' hB hP; simp only [Preds, Region.binds, ownF, forall_const, and_true, true_and] at hP)
      obtain ⟨g, h6, hge, hgb⟩ : ∃ g, ys 12 = .slice (some ⟨g, 0, none⟩) 0 0 ∧ w.heap.size + 2 ≤ g ∧ w'.heap[g]? = some (.cells #[] 5 (0, 0)) := by first | simpa using hP.1 | simpa using hP
      have hB1 := hB.1
      have h8 : ys 14 = .slice a2 n2 c2 := by first | simpa using hP.2 | simpa using hP.2.1
      intro K hK
      with_reducible refine wp_new (.tmp 15) (.tmp 17) 23 23 ?ho15 5 (.int .u8 0) 1 bytesT u8i ?hz15 g ?hx15 hgb (.slice a2 n2 c2) n2 (bcells d) ?hy15 (hd1 w' hB1) ?h6315 ?hb15 ?hh15
      case ho15 => rfl
      case hz15 => rfl
      case hx15 => simp [Act.eval, fillA, Act.put, h6]
      case hy15 => simp [Act.eval, fillA, Act.put, h8]
      case h6315 => unfold maxLen; omega
      case hb15 => omega
      case hh15 =>
        intro va cap w2 hown hg2
        exact hK (.slice va n2 cap) w2 (hB.gr hg2) ⟨va, cap, rfl, World.ownsRow.mono hown (by omega)⟩ (fun j u _ h => h.gr hg2)
    · (intro ys w' hB hP; simp only [Preds, Region.binds, ownF, forall_const, and_true, true_and] at hP)
      obtain ⟨f1, f3, f5, ⟨va, ca, f9, r9⟩, f11, ⟨vb, cb, f15, r15⟩⟩ : ys 1 = .int .i64 k ∧ ys 3 = .int .u8 c ∧ ys 5 = .int .u8 m ∧ (∃ va cap, ys 9 = .slice va n1 cap ∧ w'.ownsRow (w.heap.size + 2) 3 1 (.slice va n1 cap) n1 (icells ps)) ∧ ys 11 = .string s ∧ (∃ va cap, ys 15 = .slice va n2 cap ∧ w'.ownsRow (w.heap.size + 2) 5 1 (.slice va n2 cap) n2 (bcells d)) := by simpa [and_assoc] using hP
      clear hP
      intro K hK
      simp only [fillA]
      go_simp
      have h2 := hK (.agg #[.int .i64 k, .int .u8 c, .int .u8 m, .slice va n1 ca, .string s, .slice vb n2 cb]) w' hB ⟨va, ca, vb, cb, rfl, r9, r15⟩ (fun j u _ h => h)
      simp [fillA, Act.put, f1, f3, f5, f9, f11, f15] at h2 ⊢
      exact h2
    · (intro ys w' hB hP; simp only [Preds, Region.binds, ownF, forall_const, and_true, true_and] at hP)
      obtain ⟨va, ca, vb, cb, f16, r9, r15⟩ : ∃ va ca vb cb, ys 16 = .agg #[.int .i64 k, .int .u8 c, .int .u8 m, .slice va n1 ca, .string s, .slice vb n2 cb] ∧ w'.ownsRow (w.heap.size + 2) 3 1 (.slice va n1 ca) n1 (icells ps) ∧ w'.ownsRow (w.heap.size + 2) 5 1 (.slice vb n2 cb) n2 (bcells d) := by first | simpa using hP | simpa using hP.1 | simpa using hP.2
      clear hP
      obtain ⟨hB1, hB2, hB3, cs, hcs, hblk⟩ := hB
      have hs := setRow_heap w' (w.heap.size + 1) cs #[.int .i64 k, .int .u8 c, .int .u8 m, .slice va n1 ca, .string s, .slice vb n2 cb] 27 (0, 0) hblk
      have ho := setRow_other w' (w.heap.size + 1) w.heap.size #[.int .i64 k, .int .u8 c, .int .u8 m, .slice va n1 ca, .string s, .slice vb n2 cb] (by omega)
      intro K hK
      with_reducible refine wp_store_row 27 (.tmp 2) (.tmp 19) ?ho8 (w.heap.size + 1) #[.int .i64 k, .int .u8 c, .int .u8 m, .slice va n1 ca, .string s, .slice vb n2 cb] ?hx8 ?hy8 27 cs hblk ?hi8 ?hc8 ?h18 ?hh8
      case hc8 => exact hcs
      case ho8 => rfl
      case hx8 => simp [Act.eval, fillA, Act.put]
      case hy8 => simp [Act.eval, fillA, Act.put, f16]
      case hi8 => kernel_rfl
      case h18 => simp [Value.oneCell']
      case hh8 =>
        refine hK undef _ ⟨?_, by simpa [World.setRow] using hB2, by rw [ho]; exact hB3, _, rfl, hs⟩ ⟨va, ca, vb, cb, hs, own_far r9 (by omega) _, own_far r15 (by omega) _⟩ (fun j u hj h => h.set hj _)
        exact ⟨hB1.os, hB1.tape, hB1.output, by have := hB1.size; simpa [World.setRow] using this, fun j hj => by rw [setRow_other _ _ _ _ (by omega)]; exact hB1.block j hj⟩
  · intro ys w' hB hF
    have f17 := hF 17 (by decide)
    obtain ⟨va, ca, vb, cb, hT, r9, r15⟩ : ∃ va ca vb cb, w'.heap[w.heap.size + 1]? = some (.cells #[.int .i64 k, .int .u8 c, .int .u8 m, .slice va n1 ca, .string s, .slice vb n2 cb] 27 (0, 0)) ∧ w'.ownsRow (w.heap.size + 2) 3 1 (.slice va n1 ca) n1 (icells ps) ∧ w'.ownsRow (w.heap.size + 2) 5 1 (.slice vb n2 cb) n2 (bcells d) := f17
    clear hF
    obtain ⟨t0, t1, t2, t3, t4, t5, tf⟩ := cells6 hT
    have hg := hB.1
    clear hB hp1 hd1
    simp only [fillA]
    go_wp2_with fail
    refine bodyPost_ret (v := .agg #[.int .i64 k, .int .u8 c, .int .u8 m, .slice va n1 ca, .string s, .slice vb n2 cb]) (by simp [results, Tryd.results9, go_sem, Act.put, t0, t1, t2, t3, t4, t5]) (by simp [Act.put]) ?_
    refine ⟨(.slice va n1 ca, .slice vb n2 cb), ?_, ⟨?_, ?_⟩, hg⟩
    · rw [HS.out]; rfl
    · rw [← HP.out] at r9 ⊢; exact World.ownsRow.mono r9 (by omega)
    · rw [← HD.out] at r15 ⊢; exact World.ownsRow.mono r15 (by omega)
end Go.Proofs.YtgbmjlajheeciaaDoor
