/-
  A sequence's id, in both texts.
  The document's bytes of a token that can be.
-/
import Derived.Deep.RegionHeld3
import Derived.Test.YtonbnmicgmnliaaGreatDoorZTkQ
import Derived.Test.YtonbnmicgmnliaaGreatDoorZOrd6
namespace Go.Proofs.YtonbnmicgmnliaaGreatDoor
set_option linter.unusedSimpArgs false
set_option linter.unusedVariables false
open Go.RowKit
set_option linter.unusedVariables false

/-- A literal of one element as a row of the call's own. -/
theorem lit_own {w : World} {B g : Nat} {e : TypeId} {v : Value} (h : w.heap[g]? = some (.cells #[v] e (0, 0))) (hB : B ≤ g) : w.ownsRow B e 1 (.slice (some ⟨g, 0, none⟩) 1 1) 1 [v] :=
  ⟨rfl, .inr ⟨g, 1, _, rfl, hB, h, Nat.le_refl _, by unfold maxLen; omega, rfl, rfl⟩⟩
theorem grown_blk {w w' : World} {v : Option Nat} {g : Nat} {b : Obj} (h : w.grownBy w' v) (hne : some g ≠ v) (hb : w.heap[g]? = some b) : w'.heap[g]? = some b := by
  rw [h.block g (Array.getElem?_eq_some_iff.1 hb).1 hne]; exact hb
end Go.Proofs.YtonbnmicgmnliaaGreatDoor

namespace Go.Proofs.YtonbnmicgmnliaaGreatDoor
set_option linter.unusedSimpArgs false
set_option linter.unusedVariables false
open Go.RowKit
set_option linter.unusedVariables false

/-- Bytes handed back. -/
def RBOut (w : World) (l : List Int) (e : Ending) (w' : World) : Prop := ∃ v, e = .returned v ∧ HasRow w' 5 v l.length (bcells l) ∧ Gr w w'
/-- An escape and a byte, in memory of their own. -/
theorem rpair_own {w : World} {c : Int} (eight : Bool) (hc : 0 ≤ c ∧ c < 256) :
    Calls Tryz.prog 38 #[.int .u8 c, .bool eight] w fun e w' => ∃ va vc n, e = .returned (.slice va n vc) ∧ n = (pairR c eight).length ∧ n ≤ 2 ∧ w'.ownsRow w.heap.size 5 1 (.slice va n vc) n (bcells (pairR c eight)) ∧ Gr w w' := by
  cases eight with
  | false =>
    have hs : pairR c false = [27, c] := by simp [pairR]
    rw [hs]
    go_enter Tryz.func38, Tryz.ntmps38
    go_wp2_with fail
    go_ret
    exact ⟨_, _, 2, rfl, rfl, Nat.le_refl _, ⟨rfl, .inr ⟨w.heap.size, 2, _, rfl, Nat.le_refl _, heap_alloc_new _ _, Nat.le_refl _, by unfold maxLen; omega, rfl, by simp [bcells]⟩⟩, (Gr.refl _).alloc _⟩
  | true =>
    by_cases h : 64 ≤ c ∧ c < 96
    · have hs : pairR c true = [c + 64] := by simp [pairR, h]
      rw [hs]
      obtain ⟨h2, h3⟩ := h
      clear hs
      go_enter Tryz.func38, Tryz.ntmps38
      go_wp2_with fail
      go_ret
      exact ⟨_, _, 1, rfl, rfl, by omega, ⟨rfl, .inr ⟨w.heap.size, 1, _, rfl, Nat.le_refl _, heap_alloc_new _ _, Nat.le_refl _, by unfold maxLen; omega, rfl, by simp [bcells]⟩⟩, (Gr.refl _).alloc _⟩
    · have hs : pairR c true = [27, c] := by simp [pairR]; omega
      rw [hs]
      rcases (by omega : c < 64 ∨ (64 ≤ c ∧ 96 ≤ c)) with h2 | ⟨h2, h3⟩
      all_goals
        clear hs h
        go_enter Tryz.func38, Tryz.ntmps38
        go_wp2_with fail
        go_ret
        exact ⟨_, _, 2, rfl, rfl, Nat.le_refl _, ⟨rfl, .inr ⟨w.heap.size, 2, _, rfl, Nat.le_refl _, heap_alloc_new _ _, Nat.le_refl _, by unfold maxLen; omega, rfl, by simp [bcells]⟩⟩, (Gr.refl _).alloc _⟩

set_option maxRecDepth 100000 in
set_option maxHeartbeats 2000000 in
theorem rb_one {w : World} {k c m : Int} {s : ByteArray} {a1 a2 : Option Addr} {n1 c1 n2 c2 : Nat} (eight : Bool) (hk : k = 1 ∨ k = 2) :
    Calls Tryz.prog 27 #[.agg #[.int .i64 k, .int .u8 c, .int .u8 m, .slice a1 n1 c1, .string s, .slice a2 n2 c2], .bool eight] w (RBOut w [c]) := by
  rcases hk with rfl | rfl
  all_goals
    go_enter Tryz.func27, Tryz.ntmps27
    go_wp2_with fail
    go_ret
    exact ⟨_, rfl, HasRow.of_own (lit_own (B := 0) (heap_new2 _ _ _) (Nat.zero_le _)), by (repeat (first | with_reducible exact Gr.refl _ | with_reducible assumption | with_reducible refine Gr.setCell ?_ (by simp; try omega) _ | with_reducible refine Gr.alloc ?_ _ | with_reducible refine Gr.drew ?_ | with_reducible refine Gr.drewN ?_ _ | with_reducible refine Gr.trans ?_ (by assumption)))⟩

set_option maxRecDepth 100000 in
set_option maxHeartbeats 2000000 in
theorem rb_esc0 {w : World} {c m : Int} {a1 a2 : Option Addr} {n1 c1 n2 c2 : Nat} (eight : Bool) (hc : 0 ≤ c ∧ c < 256) :
    Calls Tryz.prog 27 #[.agg #[.int .i64 3, .int .u8 c, .int .u8 m, .slice a1 n1 c1, .string ⟨#[]⟩, .slice a2 n2 c2], .bool eight] w (RBOut w (pairR c eight)) := by
  have hp := fun w => rpair_own (w := w) eight hc
  go_enter Tryz.func27, Tryz.ntmps27
  go_wp2_with (go_at_call 38; (with_reducible refine (hp _).mono ?_); rintro e w1 ⟨va, vc, n, rfl, hn, _, hr, hg⟩)
  go_ret
  exact ⟨_, rfl, by rw [← hn]; exact HasRow.of_own hr, by (repeat (first | with_reducible exact Gr.refl _ | with_reducible assumption | with_reducible refine Gr.setCell ?_ (by simp; try omega) _ | with_reducible refine Gr.alloc ?_ _ | with_reducible refine Gr.drew ?_ | with_reducible refine Gr.drewN ?_ _ | with_reducible refine Gr.trans ?_ (by assumption)))⟩

theorem wp_s2bF {P : Program} {u : Oper} {a : Act} {w : World} {K : Act → World → Prop} {Q : Exit → Act → World → Prop} (x : Operand) (src dst e : TypeId) (hu : u.op = .convert src dst x) {td : TypeDesc} (hsrc : P.underlying src = some td) (hdst : P.underlying dst = some (.slice e)) (he : P.underlying e = some (.int .u8))
    (s : ByteArray) (hx : a.eval x = .string s)
    (H : ∀ (cap : Nat) (C : Array Value) (w' : World), w'.heap[w.heap.size]? = some (.cells C e (C.size, C.size + 1)) → (∀ (j : Nat) (v : Value), (s.data.toList.map fun b => Value.int .u8 (b.toNat : Int))[j]? = some v → C[j]? = some v) → Gr w w' → K (a.put u.dst (.slice (some ⟨w.heap.size, 0, none⟩) s.size cap)) w') : u.wp P a w K Q := by
  have hr := Lib.run_convert_string_bytes (P := P) w src dst e s hsrc hdst he
  unfold Oper.wp execOp
  simp only [hu, hx, Sem.run_bind, hr, Result.andThen_ok, Sem.run_pure]
  refine H _ _ _ (Lib.bytesWorld_at_new w e s) (fun j v hj => ?_) ((Gr.refl w).bytesWorld e s)
  unfold Lib.bytesCells
  have hlt : j < s.data.toList.length := by have := (List.getElem?_eq_some_iff.1 hj).1; simpa using this
  rw [Array.getElem?_append_left (by simpa using hlt), Array.getElem?_map]
  rw [List.getElem?_map] at hj
  rw [← hj, Array.getElem?_toList]
def escF (wb : World) (b : Nat) (s : ByteArray) (nl : Nat) (L : List Value) (c : Int) : Nat → (Nat → Value) → World → Prop
  | 0, ys, w' => ∃ g, ys 0 = .slice (some ⟨g, 0, none⟩) 1 1 ∧ wb.heap.size ≤ g ∧ w'.heap[g]? = some (.cells #[.int .u8 27] 5 (0, 0))
  | 1, ys, _ => ys 1 = .pointer (some ⟨b, 4, none⟩)
  | 2, ys, _ => ys 2 = .string s
  | 3, ys, w' => ∃ (g cap : Nat) (C : Array Value), ys 3 = .slice (some ⟨g, 0, none⟩) nl cap ∧ w'.heap[g]? = some (.cells C 5 (C.size, C.size + 1)) ∧ ∀ (j : Nat) (u : Value), L[j]? = some u → C[j]? = some u
  | 4, ys, w' => ∃ va cap, ys 4 = .slice va (1 + nl) cap ∧ w'.ownsRow wb.heap.size 5 1 (.slice va (1 + nl) cap) (1 + nl) ([.int .u8 27] ++ L)
  | 5, ys, _ => ys 5 = .pointer (some ⟨b, 1, none⟩)
  | 6, ys, _ => ys 6 = .int .u8 c
  | 7, ys, w' => ∃ g, ys 7 = .slice (some ⟨g, 0, none⟩) 1 1 ∧ wb.heap.size ≤ g ∧ w'.heap[g]? = some (.cells #[.int .u8 c] 5 (0, 0))
  | 8, ys, w' => ∃ va cap, ys 8 = .slice va (1 + nl + 1) cap ∧ w'.ownsRow wb.heap.size 5 1 (.slice va (1 + nl + 1) cap) (1 + nl + 1) ([.int .u8 27] ++ L ++ [.int .u8 c])
  | 9, ys, _ => ys 9 = ys 8
  | _, _, _ => True
theorem escF.gr {wb w1 w2 : World} {b nl : Nat} {s : ByteArray} {L : List Value} {c : Int} {j : Nat} {ys : Nat → Value} (h : escF wb b s nl L c j ys w1) (hg : Gr w1 w2) : escF wb b s nl L c j ys w2 := by
  unfold escF at h ⊢
  split <;> first | exact h | skip
  · obtain ⟨g, e, hb, h⟩ := h; exact ⟨g, e, hb, hg.blk h⟩
  · obtain ⟨g, cap, C, e, h, h2⟩ := h; exact ⟨g, cap, C, e, hg.blk h, h2⟩
  · obtain ⟨va, cap, e, h⟩ := h; exact ⟨va, cap, e, ownsRow_gr h hg⟩
  · obtain ⟨g, e, hb, h⟩ := h; exact ⟨g, e, hb, hg.blk h⟩
  · obtain ⟨va, cap, e, h⟩ := h; exact ⟨va, cap, e, ownsRow_gr h hg⟩
  · trivial
theorem escF.app {wb w1 w2 : World} {b nl : Nat} {s : ByteArray} {L : List Value} {c : Int} {j : Nat} {ys : Nat → Value} (h : escF wb b s nl L c j ys w1) (h8 : j ≠ 8) (hn : 1 ≤ nl) {va : Option Addr} {cap : Nat} {xs : List Value}
    (h4 : ys 4 = .slice va (1 + nl) cap) (hr : w1.ownsRow wb.heap.size 5 1 (.slice va (1 + nl) cap) (1 + nl) xs) (hgb : w1.grownBy w2 (Value.slice va (1 + nl) cap).ownBlock) (hk : w2.ownsRow wb.heap.size 5 1 (.slice va (1 + nl) cap) (1 + nl) ([.int .u8 27] ++ L)) : escF wb b s nl L c j ys w2 := by
  have hne : ∀ (g : Nat) (C : Array Value) (f : Nat × Nat), w1.heap[g]? = some (.cells C 5 f) → (C.size < 2 ∨ f ≠ (0, 0)) → some g ≠ (Value.slice va (1 + nl) cap).ownBlock := by
    intro g C f hg hC e
    rcases hr.2 with ⟨h0, _⟩ | ⟨g', cap', cur, hv, _, hh, hnc, _, hsz, _⟩
    · injection h0 with _ h0; omega
    · rw [hv] at e
      injection e with e
      subst e
      rw [hg] at hh
      injection hh with hh
      injection hh with e1 e2 e3
      rcases hC with hC | hC
      · rw [e1] at hC; omega
      · exact hC e3
  unfold escF at h ⊢
  split <;> first | exact h | skip
  · obtain ⟨g, e, hb, h⟩ := h; exact ⟨g, e, hb, grown_blk hgb (hne g _ _ h (.inl (by simp))) h⟩
  · obtain ⟨g, cap, C, e, h, h2⟩ := h; exact ⟨g, cap, C, e, grown_blk hgb (hne g _ _ h (.inr (by simp))) h, h2⟩
  · obtain ⟨va', cap', e, h⟩ := h
    rw [h4] at e
    injection e with e1 e2 e3
    subst e1; subst e3
    exact ⟨va, cap, h4, hk⟩
  · obtain ⟨g, e, hb, h⟩ := h; exact ⟨g, e, hb, grown_blk hgb (hne g _ _ h (.inl (by simp))) h⟩
  · exact absurd rfl h8
  · trivial

def escB (wb w' : World) : Prop := Gr wb w' ∧ True
theorem escB.gr {wb w1 w2 : World} (h : escB wb w1) (hg : Gr w1 w2) : escB wb w2 := ⟨h.1.trans hg, trivial⟩

set_option maxRecDepth 100000 in
set_option maxHeartbeats 2000000 in
theorem rb_esc {w : World} {c m : Int} {l : List Int} {a1 a2 : Option Addr} {n1 c1 n2 c2 : Nat} (eight : Bool) (hl : IntsOk l) (hne : l ≠ []) :
    Calls Tryz.prog 27 #[.agg #[.int .i64 3, .int .u8 c, .int .u8 m, .slice a1 n1 c1, .string (strOf l), .slice a2 n2 c2], .bool eight] w (RBOut w ([27] ++ (l ++ [c]))) := by
  obtain ⟨p1, p2, p3⟩ := qstr (strOf_ne hne)
  obtain ⟨nl, hnl⟩ : ∃ nl, l.length = nl := ⟨_, rfl⟩
  have hl3 := hl.1
  rw [hnl] at hl3
  have hsz : (strOf l).size = nl := by rw [strOf_size', hnl]
  have hcl : (strOf l).data.toList.map (fun b => Value.int .u8 (b.toNat : Int)) = bcells l := byteCells_strOf l fun c hc => by have := hl.2 c hc; omega
  obtain ⟨s, hsd⟩ : ∃ s, s = strOf l := ⟨_, rfl⟩
  rw [← hsd] at p1 p2 p3 hsz hcl ⊢
  have hb0 := heap_alloc_new w (.cells #[.int .i64 3, .int .u8 c, .int .u8 m, .slice a1 n1 c1, .string s, .slice a2 n2 c2] 65)
  have hw0 := (Gr.refl w).alloc (.cells #[.int .i64 3, .int .u8 c, .int .u8 m, .slice a1 n1 c1, .string s, .slice a2 n2 c2] 65)
  have HC := Lib.hid hcl
  have HN := Lib.hid hnl
  have HZ := Lib.hid hsz
  have hnl1 := Lib.hid (show 1 ≤ nl by rw [← hnl]; exact List.length_pos_iff.2 hne)
  clear hsd hnl hne hcl hsz hl
  have hb1 : ∀ w9, Gr (w.alloc (.cells #[.int .i64 3, .int .u8 c, .int .u8 m, .slice a1 n1 c1, .string s, .slice a2 n2 c2] 65)) w9 → w9.heap[w.heap.size]? = some (.cells #[.int .i64 3, .int .u8 c, .int .u8 m, .slice a1 n1 c1, .string s, .slice a2 n2 c2] 65 (0, 0)) := fun w9 hg => hg.blk hb0
  go_enter Tryz.func27, Tryz.ntmps27
  go_upto_region 1 with (fail)
  obtain ⟨wb, hwb⟩ : ∃ wb, wb = w.alloc (.cells #[.int .i64 3, .int .u8 c, .int .u8 m, .slice a1 n1 c1, .string s, .slice a2 n2 c2] 65) := ⟨_, rfl⟩
  rw [← hwb] at hb1 hw0 ⊢
  have hS := fun (w9 : World) (hg : Gr wb w9) => cells6 (hb1 w9 hg)
  have hbz : w.heap.size < wb.heap.size := by rw [hwb]; simp
  clear hwb hb0
  have hgb := Gr.refl wb
  obtain ⟨t0, t1, t2, t3, t4, t5, tf⟩ := hS _ hgb
  go_upto_region 6 with (fail)
  refine wp_region_facts5 (escF wb w.heap.size s s.size (bcells l) c) (fun _ _ _ _ => True) (escB wb) (by kernel_rfl) (by kernel_rfl) (by kernel_rfl) ?_ ⟨(Gr.refl _).drew, trivial⟩ ?_ ?_
  · intro j o ho ys zs w' hj he hF
    match j, ho, hj, hF with
    | 0, ho, hj, hF | 1, ho, hj, hF | 2, ho, hj, hF | 3, ho, hj, hF | 4, ho, hj, hF | 5, ho, hj, hF | 6, ho, hj, hF | 7, ho, hj, hF | 8, ho, hj, hF => simp only [escF] at hF ⊢; rw [← hj]; exact hF
    | 9, ho, hj, hF =>
      simp at ho; subst ho
      have := he ⟨8, .data⟩ (by simp) rfl
      simp only [escF] at hF ⊢; rw [← this, ← hj]; exact hF
    | _ + 10, ho, _, _ => simp at ho
  · refine Steps2.cons1 1 rfl rfl ?_ (Steps2.cons1 2 rfl rfl ?_ (Steps2.cons1 3 rfl rfl ?_ (Steps2.cons1 4 rfl rfl ?_ (Steps2.cons1 5 rfl rfl ?_ (Steps2.cons1 6 rfl rfl ?_ (Steps2.cons1 7 rfl rfl ?_ (Steps2.cons1 8 rfl rfl ?_ (Steps2.cons1 9 rfl rfl ?_ (Steps2.cons1 10 rfl rfl ?_ (Steps2.nil))))))))))
    · (intro L ys w' hB hD hP hn; simp only [LAll, Region.binds, forall_const, and_true, true_and] at hP)
      have hz := gr_le hB.1
      intro K hK
      simp only [fillA]
      go_simp
      have h2 := hK (.slice (some ⟨w'.heap.size, 0, none⟩) 1 1) (w'.alloc (.cells #[.int .u8 27] 5)) (hB.gr ((Gr.refl _).alloc _)) ⟨_, setY_at ys 0 _, hz, heap_alloc_new _ _⟩ (fun j _ h => h.gr ((Gr.refl _).alloc _)) (fun j _ => ⟨fun _ => trivial, fun _ => trivial⟩)
      simp [fillA, Act.put] at h2
      exact h2
    · (intro L ys w' hB hD hP hn; simp only [LAll, Region.binds, forall_const, and_true, true_and] at hP)
      intro K hK
      simp only [fillA]
      go_simp
      have h2 := hK (.pointer (some ⟨w.heap.size, 4, none⟩)) w' hB (setY_at ys 1 _) (fun j _ h => h) (fun j _ => ⟨fun _ => trivial, fun _ => trivial⟩)
      simp [fillA, Act.put] at h2
      exact h2
    · (intro L ys w' hB hD hP hn; simp only [LAll, Region.binds, forall_const, and_true, true_and] at hP)
      have f1 : ys 1 = .pointer (some ⟨w.heap.size, 4, none⟩) := hD.fact 1 (by first | exact hP | exact hP.1 | exact hP.2.1 | exact hP.2.2.1 | exact hP.2.2.2.1 | exact hP.2.2.2.2 | exact hP.2.2.2.2.1 | exact hP.2 | exact hP.2.2 | exact hP.2.2.2)
      obtain ⟨q0, q1, q2, q3, q4, q5, qf⟩ := hS _ hB.1
      intro K hK
      simp only [fillA]
      go_simp
      have h2 := hK (.string s) w' hB (setY_at ys 2 _) (fun j _ h => h) (fun j _ => ⟨fun _ => trivial, fun _ => trivial⟩)
      simp [fillA, Act.put, f1] at h2
      exact h2
    · (intro L ys w' hB hD hP hn; simp only [LAll, Region.binds, forall_const, and_true, true_and] at hP)
      have f2 : ys 2 = .string s := hD.fact 2 (by first | exact hP | exact hP.1 | exact hP.2.1 | exact hP.2.2.1 | exact hP.2.2.2.1 | exact hP.2.2.2.2 | exact hP.2.2.2.2.1 | exact hP.2 | exact hP.2.2 | exact hP.2.2.2)
      intro K hK
      with_reducible refine wp_s2bF (.tmp 24) 9 31 5 ?ho3 Tryz.underlying9 bytesT Tryz.underlying5 s ?hx3 ?hh3
      case ho3 => rfl
      case hx3 => simp [Act.eval, fillA, Act.put, f2]
      case hh3 =>
        intro cap C w2 hC hCl hg2
        rw [HC.out] at hCl
        exact hK _ w2 (hB.gr hg2) ⟨_, cap, C, setY_at ys 3 _, hC, hCl⟩ (fun j _ h => h.gr hg2) (fun j _ => ⟨fun _ => trivial, fun _ => trivial⟩)
    · (intro L ys w' hB hD hP hn; simp only [LAll, Region.binds, forall_const, and_true, true_and] at hP)
      obtain ⟨g, f0, hge, hgb⟩ : ∃ g, ys 0 = .slice (some ⟨g, 0, none⟩) 1 1 ∧ wb.heap.size ≤ g ∧ w'.heap[g]? = some (.cells #[.int .u8 27] 5 (0, 0)) := hD.fact 0 (by first | exact hP | exact hP.1 | exact hP.2.1 | exact hP.2.2.1 | exact hP.2.2.2.1 | exact hP.2.2.2.2 | exact hP.2.2.2.2.1 | exact hP.2 | exact hP.2.2 | exact hP.2.2.2)
      obtain ⟨g3, cap, C, f3, hgc, hCl⟩ : ∃ (g cap : Nat) (C : Array Value), ys 3 = .slice (some ⟨g, 0, none⟩) s.size cap ∧ w'.heap[g]? = some (.cells C 5 (C.size, C.size + 1)) ∧ ∀ (j : Nat) (u : Value), (bcells l)[j]? = some u → C[j]? = some u := hD.fact 3 (by first | exact hP | exact hP.1 | exact hP.2.1 | exact hP.2.2.1 | exact hP.2.2.2.1 | exact hP.2.2.2.2 | exact hP.2.2.2.2.1 | exact hP.2 | exact hP.2.2 | exact hP.2.2.2)
      have hsrc : Src Tryz.prog 1 31 (.slice (some ⟨g3, 0, none⟩) s.size cap) s.size (bcells l) w' := Src.ofSlice w' bytesT ⟨g3, 0, none⟩ s.size cap (bcells l) (by rw [HZ.out, ← HN.out]; simp [bcells]) (fun j v hv => by
        have e : (⟨g3, 0, none⟩ : Addr).add j = ⟨g3, j, none⟩ := by rcases j with _ | j <;> simp [Addr.add]
        rw [e]
        simp [World.cell?, hgc, hCl j v hv]) (bcells_one l)
      have hpos : 0 < s.size := by rw [HZ.out]; exact hnl1.out
      have h3s : s.size ≤ 3 := by rw [HZ.out]; exact hl3
      have hz := gr_le hB.1
      intro K hK
      with_reducible refine wp_addF (.tmp 22) (.tmp 25) 31 31 ?ho4 5 (.int .u8 0) 1 bytesT u8i ?hz4 wb.heap.size (.slice (some ⟨g, 0, none⟩) 1 1) 1 [.int .u8 27] ?hx4 (lit_own hgb hge) g ?hv4 hz (.slice (some ⟨g3, 0, none⟩) s.size cap) s.size (bcells l) ?hy4 hsrc hpos ?hn4 ?hb4 ?hh4
      case ho4 => rfl
      case hz4 => rfl
      case hv4 => rfl
      case hx4 => simp [Act.eval, fillA, Act.put, f0]
      case hy4 => simp [Act.eval, fillA, Act.put, f3]
      case hn4 => unfold maxLen; omega
      case hb4 => omega
      case hh4 =>
        intro va ca w2 hown hg2
        exact hK _ w2 (hB.gr hg2) ⟨va, ca, setY_at ys 4 _, hown⟩ (fun j _ h => h.gr hg2) (fun j _ => ⟨fun _ => trivial, fun _ => trivial⟩)
    · (intro L ys w' hB hD hP hn; simp only [LAll, Region.binds, forall_const, and_true, true_and] at hP)
      intro K hK
      simp only [fillA]
      go_simp
      have h2 := hK (.pointer (some ⟨w.heap.size, 1, none⟩)) w' hB (setY_at ys 5 _) (fun j _ h => h) (fun j _ => ⟨fun _ => trivial, fun _ => trivial⟩)
      simp [fillA, Act.put] at h2
      exact h2
    · (intro L ys w' hB hD hP hn; simp only [LAll, Region.binds, forall_const, and_true, true_and] at hP)
      have f5 : ys 5 = .pointer (some ⟨w.heap.size, 1, none⟩) := hD.fact 5 (by first | exact hP | exact hP.1 | exact hP.2.1 | exact hP.2.2.1 | exact hP.2.2.2.1 | exact hP.2.2.2.2 | exact hP.2.2.2.2.1 | exact hP.2 | exact hP.2.2 | exact hP.2.2.2)
      obtain ⟨q0, q1, q2, q3, q4, q5, qf⟩ := hS _ hB.1
      intro K hK
      simp only [fillA]
      go_simp
      have h2 := hK (.int .u8 c) w' hB (setY_at ys 6 _) (fun j _ h => h) (fun j _ => ⟨fun _ => trivial, fun _ => trivial⟩)
      simp [fillA, Act.put, f5] at h2
      exact h2
    · (intro L ys w' hB hD hP hn; simp only [LAll, Region.binds, forall_const, and_true, true_and] at hP)
      have f6 : ys 6 = .int .u8 c := hD.fact 6 (by first | exact hP | exact hP.1 | exact hP.2.1 | exact hP.2.2.1 | exact hP.2.2.2.1 | exact hP.2.2.2.2 | exact hP.2.2.2.2.1 | exact hP.2 | exact hP.2.2 | exact hP.2.2.2)
      have hz := gr_le hB.1
      intro K hK
      simp only [fillA]
      go_simp
      have h2 := hK (.slice (some ⟨w'.heap.size, 0, none⟩) 1 1) (w'.alloc (.cells #[.int .u8 c] 5)) (hB.gr ((Gr.refl _).alloc _)) ⟨_, setY_at ys 7 _, hz, heap_alloc_new _ _⟩ (fun j _ h => h.gr ((Gr.refl _).alloc _)) (fun j _ => ⟨fun _ => trivial, fun _ => trivial⟩)
      simp [fillA, Act.put, f6] at h2 ⊢
      exact h2
    · (intro L ys w' hB hD hP hn; simp only [LAll, Region.binds, forall_const, and_true, true_and] at hP)
      obtain ⟨va, ca, f4, hr⟩ : ∃ va cap, ys 4 = .slice va (1 + s.size) cap ∧ w'.ownsRow wb.heap.size 5 1 (.slice va (1 + s.size) cap) (1 + s.size) ([Value.int .u8 27] ++ bcells l) := hD.fact 4 (by first | exact hP | exact hP.1 | exact hP.2.1 | exact hP.2.2.1 | exact hP.2.2.2.1 | exact hP.2.2.2.2 | exact hP.2.2.2.2.1 | exact hP.2 | exact hP.2.2 | exact hP.2.2.2)
      obtain ⟨g, f7, hge, hgb⟩ : ∃ g, ys 7 = .slice (some ⟨g, 0, none⟩) 1 1 ∧ wb.heap.size ≤ g ∧ w'.heap[g]? = some (.cells #[.int .u8 c] 5 (0, 0)) := hD.fact 7 (by first | exact hP | exact hP.1 | exact hP.2.1 | exact hP.2.2.1 | exact hP.2.2.2.1 | exact hP.2.2.2.2 | exact hP.2.2.2.2.1 | exact hP.2 | exact hP.2.2 | exact hP.2.2.2)
      have hpos : 1 ≤ s.size := by rw [HZ.out]; exact hnl1.out
      have h3s : s.size ≤ 3 := by rw [HZ.out]; exact hl3
      have hz := gr_le hB.1
      have hback := hD.back 9
      intro K hK
      with_reducible refine wp_addK (.tmp 26) (.tmp 29) 31 31 ?ho8 5 (.int .u8 0) 1 bytesT u8i ?hz8 wb.heap.size (.slice va (1 + s.size) ca) (1 + s.size) ([Value.int .u8 27] ++ bcells l) ?hx8 hr hz (.slice (some ⟨g, 0, none⟩) 1 1) 1 [.int .u8 c] ?hy8 (src_block bytesT [.int .u8 c] hgb rfl ?h18) ?hn8 ?hb8 ?hh8
      case ho8 => rfl
      case hz8 => rfl
      case h18 => simp [Value.oneCell']
      case hx8 => simp [Act.eval, fillA, Act.put, f4]
      case hy8 => simp [Act.eval, fillA, Act.put, f7]
      case hn8 => unfold maxLen; omega
      case hb8 => omega
      case hh8 =>
        intro va2 ca2 w2 hown hgb2 hkeep
        exact hK _ w2 ⟨hB.1.grown hr (Nat.le_refl _) hgb2, trivial⟩ ⟨va2, ca2, setY_at ys 8 _, hown⟩ (fun j hl h => h.app (fun e => hn (e ▸ hl)) hpos f4 hr hgb2 hkeep) (fun j _ => ⟨fun _ => trivial, fun _ => trivial⟩)
    · (intro L ys w' hB hD hP hn; simp only [LAll, Region.binds, forall_const, and_true, true_and] at hP)
      intro K hK
      simp only [fillA]
      go_simp
      have h2 := hK (ys 8) w' hB (by show setY ys 9 (ys 8) 9 = setY ys 9 (ys 8) 8; simp [setY]) (fun j _ h => h) (fun j _ => ⟨fun _ => trivial, fun _ => trivial⟩)
      simp [fillA, Act.put] at h2
      exact h2
  · intro ys w' hB hF _
    obtain ⟨va, ca, f8, hr⟩ : ∃ va cap, ys 8 = .slice va (1 + s.size + 1) cap ∧ w'.ownsRow wb.heap.size 5 1 (.slice va (1 + s.size + 1) cap) (1 + s.size + 1) ([Value.int .u8 27] ++ bcells l ++ [Value.int .u8 c]) := hF 8 (by decide)
    have f9 : ys 9 = ys 8 := hF 9 (by decide)
    rw [f8] at f9
    clear hF
    simp only [fillA, f9]
    go_wp2_with fail
    go_ret
    refine ⟨.slice va (1 + s.size + 1) ca, by simp [Act.put, f9], ?_, hw0.trans hB.1⟩
    show HasRow w' 5 (.slice va (1 + s.size + 1) ca) ([27] ++ (l ++ [c])).length (bcells ([27] ++ (l ++ [c])))
    have e1 : ([27] ++ (l ++ [c])).length = 1 + s.size + 1 := by rw [HZ.out, ← HN.out]; simp; omega
    have e2 : bcells ([27] ++ (l ++ [c])) = [.int .u8 27] ++ bcells l ++ [.int .u8 c] := by simp [bcells]
    rw [e1, e2]
    exact HasRow.of_own hr
end Go.Proofs.YtonbnmicgmnliaaGreatDoor
