/-
  A state that is brought back by the program, walked (gen_sto.py).
-/
import Derived.Test.YtfkecgkfcldffaaDoorZStN
namespace Go.Proofs.YtfkecgkfcldffaaDoor
set_option linter.unusedSimpArgs false
set_option linter.unusedVariables false
open Go.RowKit
set_option linter.unusedVariables false

set_option maxRecDepth 100000 in
set_option maxHeartbeats 4000000 in
theorem sleq_any (A B : List Int) (g1 g2 c1 c2 : Nat) (p1 p2 : List Value) (w : World) (h1 : w.heap[g1]? = some (.cells ⟨icells A ++ p1⟩ 3 (0, 0))) (h2 : w.heap[g2]? = some (.cells ⟨icells B ++ p2⟩ 3 (0, 0))) (hbig : A.length ≤ 100000) : Calls Tryd.prog 55 #[.slice (some ⟨g1, 0, none⟩) A.length c1, .slice (some ⟨g2, 0, none⟩) B.length c2] w fun e w' => e = .returned (.bool (decide (A = B))) ∧ Gr w w' := by
  refine calls_sx (n := 26) (args := [.slice (some ⟨g1, 0, none⟩) A.length c1, .slice (some ⟨g2, 0, none⟩) B.length c2]) Tryd.func55 rfl rfl rfl ?_
  have hs0 := SH.none w
  refine CW.seq ?_
  refine CW.region ?_
  refine SL.v (.bool false) ?_
  refine SL.nil ?_
  refine CW.seq ?_
  refine CW.seq ?_
  refine CW.region ?_
  refine SL.v (.slice (some ⟨g1, 0, none⟩) A.length c1) ?_
  refine SL.val (v := .int .i64 ((A.length : Nat) : Int)) (w' := w) rfl rfl (by kernel_rfl) ?_
  refine SL.v (.slice (some ⟨g2, 0, none⟩) B.length c2) ?_
  refine SL.val (v := .int .i64 ((B.length : Nat) : Int)) (w' := w) rfl rfl (by kernel_rfl) ?_
  refine SL.v (.bool (!(((A.length : Nat) : Int) == ((B.length : Nat) : Int)))) ?_
  refine SL.nil ?_
  rcases Bool.eq_false_or_eq_true (((A.length : Nat) : Int) == ((B.length : Nat) : Int)) with hb_1 | hb_1
  · try rw [hb_1]
    have hl_ : A.length = B.length := by have := of_decide_eq_true (show decide ((A.length : Int) = (B.length : Int)) = true by simpa using hb_1); omega
    refine CW.cond_false (by kernel_rfl) ?_
    refine CW.skip ?_
    refine CW.seq ?_
    refine CW.seq ?_
    refine CW.region ?_
    refine SL.v (.slice (some ⟨g1, 0, none⟩) A.length c1) ?_
    refine SL.val (v := .int .i64 ((A.length : Nat) : Int)) (w' := w) rfl rfl (by kernel_rfl) ?_
    refine SL.v (.int .i64 0) ?_
    refine SL.nil ?_
    refine CW.block ?_
    refine CW.loopI (fun m_ e9 w9 => ∃ (k : Nat), m_ = A.length - k ∧ SH [] w w9 [] ∧ (k ≤ A.length) ∧ (A.take k = B.take k) ∧ e9 0 = .slice (some ⟨g1, 0, none⟩) A.length c1 ∧ e9 1 = .slice (some ⟨g2, 0, none⟩) B.length c2 ∧ e9 4 = .bool false ∧ e9 6 = .slice (some ⟨g1, 0, none⟩) A.length c1 ∧ e9 7 = .int .i64 ((A.length : Nat) : Int) ∧ e9 8 = .slice (some ⟨g2, 0, none⟩) B.length c2 ∧ e9 9 = .int .i64 ((B.length : Nat) : Int) ∧ e9 10 = .bool false ∧ e9 11 = .slice (some ⟨g1, 0, none⟩) A.length c1 ∧ e9 12 = .int .i64 ((A.length : Nat) : Int) ∧ e9 13 = .int .i64 ((k : Nat) : Int)) ⟨_, 0, rfl, hs0, (Nat.zero_le _), rfl, (by kernel_rfl), (by kernel_rfl), (by kernel_rfl), (by kernel_rfl), (by kernel_rfl), (by kernel_rfl), (by kernel_rfl), (by kernel_rfl), (by kernel_rfl), (by kernel_rfl), (by kernel_rfl)⟩ ?_
    rintro m_2 e_3 w_4 ⟨k, hm_6, hs_5, hk, he, hv_7, hv_8, hv_9, hv_10, hv_11, hv_12, hv_13, hv_14, hv_15, hv_16, hv_17⟩
    obtain ⟨e_18, rfl⟩ : ∃ e_18, e_3 = put1 (put1 (put1 (put1 (put1 (put1 (put1 (put1 (put1 (put1 (put1 e_18 0 (.slice (some ⟨g1, 0, none⟩) A.length c1)) 1 (.slice (some ⟨g2, 0, none⟩) B.length c2)) 4 (.bool false)) 6 (.slice (some ⟨g1, 0, none⟩) A.length c1)) 7 (.int .i64 ((A.length : Nat) : Int))) 8 (.slice (some ⟨g2, 0, none⟩) B.length c2)) 9 (.int .i64 ((B.length : Nat) : Int))) 10 (.bool false)) 11 (.slice (some ⟨g1, 0, none⟩) A.length c1)) 12 (.int .i64 ((A.length : Nat) : Int))) 13 (.int .i64 ((k : Nat) : Int)) := ⟨e_3, (put_self hv_17).trans (congrArg (fun z => put1 z 13 (.int .i64 ((k : Nat) : Int))) ((put_self hv_16).trans (congrArg (fun z => put1 z 12 (.int .i64 ((A.length : Nat) : Int))) ((put_self hv_15).trans (congrArg (fun z => put1 z 11 (.slice (some ⟨g1, 0, none⟩) A.length c1)) ((put_self hv_14).trans (congrArg (fun z => put1 z 10 (.bool false)) ((put_self hv_13).trans (congrArg (fun z => put1 z 9 (.int .i64 ((B.length : Nat) : Int))) ((put_self hv_12).trans (congrArg (fun z => put1 z 8 (.slice (some ⟨g2, 0, none⟩) B.length c2)) ((put_self hv_11).trans (congrArg (fun z => put1 z 7 (.int .i64 ((A.length : Nat) : Int))) ((put_self hv_10).trans (congrArg (fun z => put1 z 6 (.slice (some ⟨g1, 0, none⟩) A.length c1)) ((put_self hv_9).trans (congrArg (fun z => put1 z 4 (.bool false)) ((put_self hv_8).trans (congrArg (fun z => put1 z 1 (.slice (some ⟨g2, 0, none⟩) B.length c2)) (put_self hv_7))))))))))))))))))))⟩
    clear hv_7 hv_8 hv_9 hv_10 hv_11 hv_12 hv_13 hv_14 hv_15 hv_16 hv_17
    refine CW.seq ?_
    refine CW.region ?_
    refine SL.v (.bool (decide (((k : Nat) : Int) < ((A.length : Nat) : Int)))) ?_
    refine SL.nil ?_
    refine CW.seq ?_
    rcases Bool.eq_false_or_eq_true (decide (((k : Nat) : Int) < ((A.length : Nat) : Int))) with hb_19 | hb_19
    · try rw [hb_19]
      have hqhb_19 := of_decide_eq_true hb_19
      refine CW.cond_true (by kernel_rfl) ?_
      refine CW.skip ?_
      refine CW.seq ?_
      refine CW.block ?_
      refine CW.seq ?_
      refine CW.region ?_
      refine SL.v (.int .i64 ((k : Nat) : Int)) ?_
      refine SL.v (.int .i64 ((k : Nat) : Int)) ?_
      refine SL.nil ?_
      refine CW.seq ?_
      have HGR : GrL [fun v _ => v = .slice (some ⟨g1, 0, none⟩) A.length c1, fun v _ => v = .int .i64 ((k : Nat) : Int), fun v _ => v = .pointer (some ⟨g1, k, none⟩), fun v _ => v = .int .i64 (A.getD k 0), fun v _ => v = .slice (some ⟨g2, 0, none⟩) B.length c2, fun v _ => v = .int .i64 ((k : Nat) : Int), fun v _ => v = .pointer (some ⟨g2, k, none⟩), fun v _ => v = .int .i64 (B.getD k 0)] := ⟨fun _ _ _ _ h => h, ⟨fun _ _ _ _ h => h, ⟨fun _ _ _ _ h => h, ⟨fun _ _ _ _ h => h, ⟨fun _ _ _ _ h => h, ⟨fun _ _ _ _ h => h, ⟨fun _ _ _ _ h => h, ⟨fun _ _ _ _ h => h, trivial⟩⟩⟩⟩⟩⟩⟩⟩
      refine CW.draw 8 (FW [fun v _ => v = .slice (some ⟨g1, 0, none⟩) A.length c1, fun v _ => v = .int .i64 ((k : Nat) : Int), fun v _ => v = .pointer (some ⟨g1, k, none⟩), fun v _ => v = .int .i64 (A.getD k 0), fun v _ => v = .slice (some ⟨g2, 0, none⟩) B.length c2, fun v _ => v = .int .i64 ((k : Nat) : Int), fun v _ => v = .pointer (some ⟨g2, k, none⟩), fun v _ => v = .int .i64 (B.getD k 0)]) (fun W => Gr w_4 W) (by kernel_rfl) (by kernel_rfl) (by kernel_rfl) (by kernel_rfl) (by kernel_rfl) (Gr.refl _).drew ?_ ?_
      · refine ⟨?_, ⟨?_, ⟨?_, ⟨?_, ⟨?_, ⟨?_, ⟨?_, ⟨?_, trivial⟩⟩⟩⟩⟩⟩⟩⟩
        · intro L ys W hB hF hP K hK
          show OpE _ _ _ W K
          exact OpE.val (.slice (some ⟨g1, 0, none⟩) A.length c1) W (by kernel_rfl) (hK _ W hB rfl (fun _ _ h => h))
        · intro L ys W hB hF hP K hK
          show OpE _ _ _ W K
          exact OpE.val (.int .i64 ((k : Nat) : Int)) W (by kernel_rfl) (hK _ W hB rfl (fun _ _ h => h))
        · intro L ys W hB hF hP K hK
          show OpE _ _ _ W K
          exact OpE.known (j := 0) (v := .slice (some ⟨g1, 0, none⟩) A.length c1) (hF 0 (hP.1 rfl)) (OpE.known (j := 1) (v := .int .i64 ((k : Nat) : Int)) (hF 1 (hP.2.1 rfl)) (OpE.val (.pointer (some ⟨g1, k, none⟩)) W ((run_ix (len := A.length) (cap := c1) (q := .i64) (I := ((k : Nat) : Int)) (g := g1) (off := 0) (i := k) (size := 1) rfl (by kernel_rfl) (by kernel_rfl) rfl (by kernel_rfl) (by kernel_rfl) (by omega)).trans (by rw [show 0 + k * 1 = k from by omega])) (hK _ W hB rfl (fun _ _ h => h))))
        · intro L ys W hB hF hP K hK
          show OpE _ _ _ W K
          exact OpE.known (j := 2) (v := .pointer (some ⟨g1, k, none⟩)) (hF 2 (hP.1 rfl)) (OpE.load (g := g1) (off := k) (v := .int .i64 (A.getD k 0)) rfl (by kernel_rfl) ((hs_5.grow hB).gr.blk h1) (ldV_one (by kernel_rfl) (by kernel_rfl) (get_map (fun z : Int => Value.int .i64 z) A p1 0 (by omega))) (hK _ W hB rfl (fun _ _ h => h)))
        · intro L ys W hB hF hP K hK
          show OpE _ _ _ W K
          exact OpE.val (.slice (some ⟨g2, 0, none⟩) B.length c2) W (by kernel_rfl) (hK _ W hB rfl (fun _ _ h => h))
        · intro L ys W hB hF hP K hK
          show OpE _ _ _ W K
          exact OpE.val (.int .i64 ((k : Nat) : Int)) W (by kernel_rfl) (hK _ W hB rfl (fun _ _ h => h))
        · intro L ys W hB hF hP K hK
          show OpE _ _ _ W K
          exact OpE.known (j := 4) (v := .slice (some ⟨g2, 0, none⟩) B.length c2) (hF 4 (hP.1 rfl)) (OpE.known (j := 5) (v := .int .i64 ((k : Nat) : Int)) (hF 5 (hP.2.1 rfl)) (OpE.val (.pointer (some ⟨g2, k, none⟩)) W ((run_ix (len := B.length) (cap := c2) (q := .i64) (I := ((k : Nat) : Int)) (g := g2) (off := 0) (i := k) (size := 1) rfl (by kernel_rfl) (by kernel_rfl) rfl (by kernel_rfl) (by kernel_rfl) (by omega)).trans (by rw [show 0 + k * 1 = k from by omega])) (hK _ W hB rfl (fun _ _ h => h))))
        · intro L ys W hB hF hP K hK
          show OpE _ _ _ W K
          exact OpE.known (j := 6) (v := .pointer (some ⟨g2, k, none⟩)) (hF 6 (hP.1 rfl)) (OpE.load (g := g2) (off := k) (v := .int .i64 (B.getD k 0)) rfl (by kernel_rfl) ((hs_5.grow hB).gr.blk h2) (ldV_one (by kernel_rfl) (by kernel_rfl) (get_map (fun z : Int => Value.int .i64 z) B p2 0 (by omega))) (hK _ W hB rfl (fun _ _ h => h)))
      · intro ys_23 w_20 hs_21 hF_22
        have hg_24 := hs_21
        have hs_21 : SH [] w w_20 [] := hs_5.grow hg_24
        refine SL.knownY (j := 0) (v := .slice (some ⟨g1, 0, none⟩) A.length c1) (show ys_23 0 = .slice (some ⟨g1, 0, none⟩) A.length c1 from hF_22 0 (by decide)) (SL.knownY (j := 1) (v := .int .i64 ((k : Nat) : Int)) (show ys_23 1 = .int .i64 ((k : Nat) : Int) from hF_22 1 (by decide)) (SL.knownY (j := 2) (v := .pointer (some ⟨g1, k, none⟩)) (show ys_23 2 = .pointer (some ⟨g1, k, none⟩) from hF_22 2 (by decide)) (SL.knownY (j := 3) (v := .int .i64 (A.getD k 0)) (show ys_23 3 = .int .i64 (A.getD k 0) from hF_22 3 (by decide)) (SL.knownY (j := 4) (v := .slice (some ⟨g2, 0, none⟩) B.length c2) (show ys_23 4 = .slice (some ⟨g2, 0, none⟩) B.length c2 from hF_22 4 (by decide)) (SL.knownY (j := 5) (v := .int .i64 ((k : Nat) : Int)) (show ys_23 5 = .int .i64 ((k : Nat) : Int) from hF_22 5 (by decide)) (SL.knownY (j := 6) (v := .pointer (some ⟨g2, k, none⟩)) (show ys_23 6 = .pointer (some ⟨g2, k, none⟩) from hF_22 6 (by decide)) (SL.knownY (j := 7) (v := .int .i64 (B.getD k 0)) (show ys_23 7 = .int .i64 (B.getD k 0) from hF_22 7 (by decide)) (?_))))))))
        clear hF_22 HGR
        refine SL.v (.bool (!((A.getD k 0) == (B.getD k 0)))) ?_
        refine SL.nil ?_
        rcases Bool.eq_false_or_eq_true ((A.getD k 0) == (B.getD k 0)) with hb_25 | hb_25
        · try rw [hb_25]
          refine CW.cond_false (by kernel_rfl) ?_
          refine CW.skip ?_
          refine CW.region ?_
          refine SL.val (v := .int .i64 ((k + 1 : Nat) : Int)) (w' := w_20) rfl rfl (by have hw : IntKind.i64.wrap (((k : Nat) : Int) + 1) = ((k + 1 : Nat) : Int) := (IntWalk.i64_in _ (by omega)).trans (by omega); exact run_eqv (by kernel_rfl) (congrArg (fun z => Value.int .i64 z) hw)) ?_
          refine SL.v (.int .i64 ((k + 1 : Nat) : Int)) ?_
          refine SL.nil ?_
          have hg_ : A.getD k 0 = B.getD k 0 := by simpa using hb_25
          exact ⟨_, ⟨k + 1, rfl, hs_21, (by omega), (by rw [take_snocD (by omega), take_snocD (by omega), he, hg_]), (by kernel_rfl), (by kernel_rfl), (by kernel_rfl), (by kernel_rfl), (by kernel_rfl), (by kernel_rfl), (by kernel_rfl), (by kernel_rfl), (by kernel_rfl), (by kernel_rfl), (by kernel_rfl)⟩, by omega⟩
        · try rw [hb_25]
          refine CW.cond_true (by kernel_rfl) ?_
          refine CW.seq ?_
          refine CW.region ?_
          refine SL.v (.bool false) ?_
          refine SL.nil ?_
          refine CW.ret ?_
          repeat with_reducible first | refine PThen.ret ?_ | refine PBlock.ret ?_
          refine PRet.tmp (t := 4) (v := .bool false) rfl rfl (by kernel_rfl) ?_
          have hne : A.getD k 0 ≠ B.getD k 0 := by simpa using hb_25
          exact ⟨by rw [decide_eq_false (fun e => hne (by rw [e]))], hs_21.gr⟩
    · try rw [hb_19]
      have hqhb_19 := of_decide_eq_false hb_19
      refine CW.cond_false (by kernel_rfl) ?_
      refine CW.exit ?_
      repeat with_reducible first | refine PThen.exit ?_ | refine PBlock.out rfl ?_
      with_reducible refine PBlock.here ?_
      repeat with_reducible refine PBlock.normal ?_
      refine CW.seq ?_
      refine CW.region ?_
      refine SL.v (.bool true) ?_
      refine SL.nil ?_
      refine CW.ret ?_
      repeat with_reducible first | refine PThen.ret ?_ | refine PBlock.ret ?_
      refine PRet.tmp (t := 4) (v := .bool true) rfl rfl (by kernel_rfl) ?_
      have e1 : A.take k = A := List.take_of_length_le (by omega)
      have e2 : B.take k = B := List.take_of_length_le (by omega)
      rw [e1, e2] at he
      exact ⟨by rw [decide_eq_true he], hs_5.gr⟩
  · try rw [hb_1]
    refine CW.cond_true (by kernel_rfl) ?_
    refine CW.seq ?_
    refine CW.region ?_
    refine SL.v (.bool false) ?_
    refine SL.nil ?_
    refine CW.ret ?_
    repeat with_reducible first | refine PThen.ret ?_ | refine PBlock.ret ?_
    refine PRet.tmp (t := 4) (v := .bool false) rfl rfl (by kernel_rfl) ?_
    have hne : ¬ A.length = B.length := by intro e; rw [e] at hb_1; simp at hb_1
    exact ⟨by rw [decide_eq_false (fun e => hne (by rw [e]))], hs0.gr⟩
theorem isL {l : List Int} (h : l.length = 12) : ∃ x0 x1 x2 x3 x4 x5 x6 x7 x8 x9 x10 x11, l = [x0, x1, x2, x3, x4, x5, x6, x7, x8, x9, x10, x11] := by
  match l, h with
  | [x0, x1, x2, x3, x4, x5, x6, x7, x8, x9, x10, x11], _ => exact ⟨x0, x1, x2, x3, x4, x5, x6, x7, x8, x9, x10, x11, rfl⟩
/-- Twelve numbers, read. -/
theorem pparse_12 (l : List Int) (x0 x1 x2 x3 x4 x5 x6 x7 x8 x9 x10 x11 : Int) (w : World) (hl : ∀ c ∈ l, 0 ≤ c ∧ c < 256) (hn : l.length ≤ 100000) (ha : l.all isAcc = true) (hx : numsR l = [x0, x1, x2, x3, x4, x5, x6, x7, x8, x9, x10, x11]) :
    Tr Tryd.prog 54 #[.string (strOf l)] w [] (fun v Q => ∃ g c pad, v = .tuple #[.slice (some ⟨g, 0, none⟩) 12 c, .int .i64 0] ∧ Q = [pt g ⟨[.int .i64 x0, .int .i64 x1, .int .i64 x2, .int .i64 x3, .int .i64 x4, .int .i64 x5, .int .i64 x6, .int .i64 x7, .int .i64 x8, .int .i64 x9, .int .i64 x10, .int .i64 x11] ++ pad⟩ 3]) := fun fp hfp => by
  refine (pparse_any l w hl hn fp hfp).mono fun e w' hR => ?_
  obtain ⟨v, Q, fp', rfl, hR, hst, hu, hf⟩ := hR
  rcases hR with ⟨_, a, c, rfl, rfl⟩ | ⟨h, _⟩
  · rw [hx] at hst
    obtain ⟨h0, ⟨_, _, h1, _⟩ | ⟨g, pad, rfl, rfl, h3, h4⟩⟩ := hst.one
    · simp at h1
    · exact ⟨_, _, [g], rfl, ⟨g, c, pad, by rw [hx]; rfl, rfl⟩, HSt.mk1 ⟨rfl, h3⟩, hu, hf⟩
  · rw [ha] at h; cases h
theorem pparse_bad (l : List Int) (w : World) (hl : ∀ c ∈ l, 0 ≤ c ∧ c < 256) (hn : l.length ≤ 100000) (ha : l.all isAcc = false) :
    Tr Tryd.prog 54 #[.string (strOf l)] w [] (fun v Q => v = .tuple #[.slice none 0 0, .int .i64 3] ∧ Q = []) :=
  (pparse_any l w hl hn).mono fun v Q hR => by
    rcases hR with ⟨h, _⟩ | ⟨_, h⟩
    · rw [ha] at h; cases h
    · exact h
theorem pparse_len (l : List Int) (w : World) (hl : ∀ c ∈ l, 0 ≤ c ∧ c < 256) (hn : l.length ≤ 100000) (ha : l.all isAcc = true) :
    Tr Tryd.prog 54 #[.string (strOf l)] w [] (fun v Q => ∃ a c, v = .tuple #[.slice a (numsR l).length c, .int .i64 0] ∧ Q = [rdH 3 a (numsR l).length c (icells (numsR l))]) :=
  (pparse_any l w hl hn).mono fun v Q hR => by
    rcases hR with ⟨_, h⟩ | ⟨h, _⟩
    · exact h
    · rw [ha] at h; cases h
abbrev nmA (c : Cor) : Array Value := #[.int .i64 c.level, .int .i64 (flagZ c.eight), .int .i64 (c.modes / 4096), .int .i64 (c.modes % 4096), .int .i64 (flagZ c.stream), .int .i64 c.status, .int .i64 (flagZ c.below), .int .i64 c.mt, .int .i64 c.ml, .int .i64 c.mb, .int .i64 c.mr, .int .i64 (flagZ c.origin)]
/-- A state with other numbers. -/
def rcor (c : Cor) (x0 x1 x2 x3 x4 x5 x6 x7 x8 x9 x10 x11 : Int) : Cor := { c.clean with level := x0, eight := !(x1 == 0), modes := x2 * 4096 + x3, stream := !(x4 == 0), status := x5, below := !(x6 == 0), mt := x7, ml := x8, mb := x9, mr := x10, origin := !(x11 == 0) }
def In16 (x : Int) : Prop := 0 ≤ x ∧ x ≤ 65535
theorem i6p {x : Int} (h : In16 x) : I6 x := by unfold In16 at h; unfold I6; omega
theorem rcor_ok {c : Cor} (h : c.Ok) (x0 x1 x2 x3 x4 x5 x6 x7 x8 x9 x10 x11 : Int) (hb : In16 x0 ∧ In16 x1 ∧ In16 x2 ∧ In16 x3 ∧ In16 x4 ∧ In16 x5 ∧ In16 x6 ∧ In16 x7 ∧ In16 x8 ∧ In16 x9 ∧ In16 x10 ∧ In16 x11) : (rcor c x0 x1 x2 x3 x4 x5 x6 x7 x8 x9 x10 x11).Ok := by
  have k := h.clean
  obtain ⟨h0, h1, h2, h3, h4, h5, h6, h7, h8, h9, h10, h11⟩ := hb
  refine ⟨k.row, k.col, k.rend, k.g, k.gl, k.gr, k.sg, k.p, ⟨i6p h7, i6p h8, i6p h9, i6p h10⟩, ⟨?_, ?_⟩, i6p h0, i6p h5, k.page, k.pages⟩
  · show 0 ≤ x2 * 4096 + x3; unfold In16 at h2 h3; omega
  · show x2 * 4096 + x3 < 4294967296; unfold In16 at h2 h3; omega
set_option maxRecDepth 100000 in
set_option maxHeartbeats 4000000 in
theorem prs_bad (c : Cor) (l : List Int) (w : World) (hok : c.Ok) (hl : ∀ c ∈ l, 0 ≤ c ∧ c < 256) (hn : l.length ≤ 300) (ha : l.all isAcc = false) : Calls Tryd.prog 18 #[.agg (cvA c), .string (strOf l)] w fun e w' => e = .returned (.tuple #[.agg (cvA c.clean), .int .i64 3]) ∧ Gr w w' := by
  have hcm := hok.clean.modes
  refine calls_sx (n := 91) (args := [.agg (cvA c), .string (strOf l)]) Tryd.func18 rfl rfl rfl ?_
  have hs0 := SH.none w
  refine CW.seq ?_
  refine CW.region ?_
  refine SL.newH (mk := fun g => .pointer (some ⟨g, 0, none⟩)) (C := (cvA c)) (T := 46) hs0 rfl rfl (by kernel_rfl) (fun g_1 w_2 hs_3 => ?_)
  have hs_3 : SH [] w w_2 [pt g_1 (cvA c) 46] := hs_3
  refine SL.newH (mk := fun g => .pointer (some ⟨g, 0, none⟩)) (C := czA) (T := 46) hs_3 rfl rfl (by kernel_rfl) (fun g_4 w_5 hs_6 => ?_)
  have hs_6 : SH [] w w_5 [pt g_1 (cvA c) 46, pt g_4 czA 46] := hs_6
  refine SL.v (.int .i64 0) ?_
  refine SL.nil ?_
  refine CW.seq ?_
  refine CW.region ?_
  refine SL.load (g := g_1) (off := 0) (v := .agg (cvA c)) rfl rfl rfl (by kernel_rfl) (hs_6.pt_at (i := 0) rfl) (by kernel_rfl) ?_
  refine SL.call (f := 10) (args := #[.agg (cvA c)]) (w1 := w_5) rfl rfl (by kernel_rfl) (clean_any c w_5 hok) ?_
  rintro x w_7 ⟨rfl, hc_8⟩
  refine ⟨.agg (cvA c.clean), rfl, ?_⟩
  have hs_9 := hs_6.grow hc_8
  refine SL.storeH (i := 0) (g := g_1) (off := 0) (v := .agg (cvA c.clean)) (L' := [pt g_1 (cvA c.clean) 46, pt g_4 czA 46]) hs_9 rfl rfl rfl (by kernel_rfl) (by kernel_rfl) rfl (by kernel_rfl) (by kernel_rfl) rfl (by kernel_rfl) rfl (fun w_10 hs_11 => ?_)
  refine SL.nil ?_
  refine CW.seq ?_
  refine CW.region ?_
  refine SL.v (.string (strOf l)) ?_
  refine SL.callH (f := 54) (args := #[.string (strOf l)]) (Pre := []) (Rest := [pt g_1 (cvA c.clean) 46, pt g_4 czA 46]) [] hs_11 rfl rfl (by kernel_rfl) rfl (pparse_bad l w_10 hl (by omega) ha) ?_
  rintro v_ Q_ w_12 ⟨rfl, rfl⟩ hs_14
  have hs_14 : SH [] w w_12 [pt g_1 (cvA c.clean) 46, pt g_4 czA 46] := hs_14
  refine SL.v (.tuple #[.slice none 0 0, .int .i64 3]) ?_
  refine SL.v (.slice none 0 0) ?_
  refine SL.v (.int .i64 3) ?_
  refine SL.v (.slice none 0 0) ?_
  refine SL.v (.int .i64 3) ?_
  refine SL.nil ?_
  refine CW.seq ?_
  refine CW.seq ?_
  refine CW.region ?_
  refine SL.v (.int .i64 3) ?_
  refine SL.v (.bool true) ?_
  refine SL.v (.bool true) ?_
  refine SL.no true ?_
  refine SL.no true ?_
  refine SL.no true ?_
  refine SL.no true ?_
  refine SL.no true ?_
  refine SL.no true ?_
  refine SL.v (.bool true) ?_
  refine SL.nil ?_
  refine CW.cond_true (by kernel_rfl) ?_
  refine CW.seq ?_
  refine CW.region ?_
  refine SL.load (g := g_1) (off := 0) (v := .agg (cvA c.clean)) rfl rfl rfl (by kernel_rfl) (hs_14.pt_at (i := 0) rfl) (by kernel_rfl) ?_
  refine SL.storeH (i := 1) (g := g_4) (off := 0) (v := .agg (cvA c.clean)) (L' := [pt g_1 (cvA c.clean) 46, pt g_4 (cvA c.clean) 46]) hs_14 rfl rfl rfl (by kernel_rfl) (by kernel_rfl) rfl (by kernel_rfl) (by kernel_rfl) rfl (by kernel_rfl) rfl (fun w_15 hs_16 => ?_)
  refine SL.v (.int .i64 3) ?_
  refine SL.nil ?_
  refine CW.ret ?_
  repeat with_reducible first | refine PThen.ret ?_ | refine PBlock.ret ?_
  refine PRet.cellTmp (t := 4) (u := 5) (ty := 46) (g := g_4) (v := .agg (cvA c.clean)) (v' := .int .i64 3) rfl rfl rfl (by kernel_rfl) (hs_16.pt_at (i := 1) rfl) (by kernel_rfl) (by kernel_rfl) ?_
  exact ⟨rfl, hs_16.gr⟩
set_option maxRecDepth 100000 in
set_option maxHeartbeats 4000000 in
theorem prs_len (c : Cor) (l : List Int) (w : World) (hok : c.Ok) (hl : ∀ c ∈ l, 0 ≤ c ∧ c < 256) (hn : l.length ≤ 300) (ha : l.all isAcc = true) (hx : (numsR l).length ≠ 12) : Calls Tryd.prog 18 #[.agg (cvA c), .string (strOf l)] w fun e w' => e = .returned (.tuple #[.agg (cvA c.clean), .int .i64 3]) ∧ Gr w w' := by
  have hcm := hok.clean.modes
  refine calls_sx (n := 91) (args := [.agg (cvA c), .string (strOf l)]) Tryd.func18 rfl rfl rfl ?_
  have hs0 := SH.none w
  refine CW.seq ?_
  refine CW.region ?_
  refine SL.newH (mk := fun g => .pointer (some ⟨g, 0, none⟩)) (C := (cvA c)) (T := 46) hs0 rfl rfl (by kernel_rfl) (fun g_1 w_2 hs_3 => ?_)
  have hs_3 : SH [] w w_2 [pt g_1 (cvA c) 46] := hs_3
  refine SL.newH (mk := fun g => .pointer (some ⟨g, 0, none⟩)) (C := czA) (T := 46) hs_3 rfl rfl (by kernel_rfl) (fun g_4 w_5 hs_6 => ?_)
  have hs_6 : SH [] w w_5 [pt g_1 (cvA c) 46, pt g_4 czA 46] := hs_6
  refine SL.v (.int .i64 0) ?_
  refine SL.nil ?_
  refine CW.seq ?_
  refine CW.region ?_
  refine SL.load (g := g_1) (off := 0) (v := .agg (cvA c)) rfl rfl rfl (by kernel_rfl) (hs_6.pt_at (i := 0) rfl) (by kernel_rfl) ?_
  refine SL.call (f := 10) (args := #[.agg (cvA c)]) (w1 := w_5) rfl rfl (by kernel_rfl) (clean_any c w_5 hok) ?_
  rintro x w_7 ⟨rfl, hc_8⟩
  refine ⟨.agg (cvA c.clean), rfl, ?_⟩
  have hs_9 := hs_6.grow hc_8
  refine SL.storeH (i := 0) (g := g_1) (off := 0) (v := .agg (cvA c.clean)) (L' := [pt g_1 (cvA c.clean) 46, pt g_4 czA 46]) hs_9 rfl rfl rfl (by kernel_rfl) (by kernel_rfl) rfl (by kernel_rfl) (by kernel_rfl) rfl (by kernel_rfl) rfl (fun w_10 hs_11 => ?_)
  refine SL.nil ?_
  refine CW.seq ?_
  refine CW.region ?_
  refine SL.v (.string (strOf l)) ?_
  refine SL.callH (f := 54) (args := #[.string (strOf l)]) (Pre := []) (Rest := [pt g_1 (cvA c.clean) 46, pt g_4 czA 46]) [] hs_11 rfl rfl (by kernel_rfl) rfl (pparse_len l w_10 hl (by omega) ha) ?_
  rintro v_ Q_ w_15 ⟨a_12, c_13, rfl, rfl⟩ hs_17
  have hs_17 : SH [] w w_15 [rdH 3 a_12 (numsR l).length c_13 (icells (numsR l)), pt g_1 (cvA c.clean) 46, pt g_4 czA 46] := hs_17
  refine SL.v (.tuple #[.slice a_12 ((numsR l).length) c_13, .int .i64 0]) ?_
  refine SL.v (.slice a_12 ((numsR l).length) c_13) ?_
  refine SL.v (.int .i64 0) ?_
  refine SL.v (.slice a_12 ((numsR l).length) c_13) ?_
  refine SL.v (.int .i64 0) ?_
  refine SL.nil ?_
  refine CW.seq ?_
  refine CW.seq ?_
  refine CW.region ?_
  refine SL.v (.int .i64 0) ?_
  refine SL.v (.bool false) ?_
  refine SL.v (.bool false) ?_
  refine SL.go ?_
  refine SL.v (.slice a_12 ((numsR l).length) c_13) ?_
  refine SL.go ?_
  refine SL.val (v := .int .i64 (((numsR l).length : Nat) : Int)) (w' := w_15) rfl rfl (by kernel_rfl) ?_
  refine SL.go ?_
  refine SL.load (g := g_1) (off := 0) (v := .agg (cvA c.clean)) rfl rfl rfl (by kernel_rfl) (hs_17.pt_at (i := 1) rfl) (by kernel_rfl) ?_
  refine SL.go ?_
  refine SL.call (f := 49) (args := #[.agg (cvA c.clean)]) (w1 := w_15) rfl rfl (by kernel_rfl) (nums_any c.clean w_15 hok.clean) ?_
  rintro x w_19 ⟨g_18, rfl, hb_22, hge_23, hc_20⟩
  refine ⟨.slice (some ⟨g_18, 0, none⟩) 12 12, rfl, ?_⟩
  have hs_21 := hs_17.fresh hc_20 hb_22 hge_23
  have hs_21 : SH [] w w_19 [rdH 3 a_12 (numsR l).length c_13 (icells (numsR l)), pt g_1 (cvA c.clean) 46, pt g_4 czA 46, pt g_18 (nmA c.clean.clean) 3] := hs_21
  refine SL.go ?_
  refine SL.val (v := .int .i64 12) (w' := w_19) rfl rfl (by kernel_rfl) ?_
  refine SL.go ?_
  refine SL.v (.bool (!((((numsR l).length : Nat) : Int) == 12))) ?_
  refine SL.v (.bool (!((((numsR l).length : Nat) : Int) == 12))) ?_
  refine SL.nil ?_
  have hb_24 : ((((numsR l).length : Nat) : Int) == 12) = false := (by simp; omega)
  rw [hb_24]
  refine CW.cond_true (by kernel_rfl) ?_
  refine CW.seq ?_
  refine CW.region ?_
  refine SL.load (g := g_1) (off := 0) (v := .agg (cvA c.clean)) rfl rfl rfl (by kernel_rfl) (hs_21.pt_at (i := 1) rfl) (by kernel_rfl) ?_
  refine SL.storeH (i := 2) (g := g_4) (off := 0) (v := .agg (cvA c.clean)) (L' := [rdH 3 a_12 (numsR l).length c_13 (icells (numsR l)), pt g_1 (cvA c.clean) 46, pt g_4 (cvA c.clean) 46, pt g_18 (nmA c.clean.clean) 3]) hs_21 rfl rfl rfl (by kernel_rfl) (by kernel_rfl) rfl (by kernel_rfl) (by kernel_rfl) rfl (by kernel_rfl) rfl (fun w_25 hs_26 => ?_)
  refine SL.v (.int .i64 3) ?_
  refine SL.nil ?_
  refine CW.ret ?_
  repeat with_reducible first | refine PThen.ret ?_ | refine PBlock.ret ?_
  refine PRet.cellTmp (t := 4) (u := 5) (ty := 46) (g := g_4) (v := .agg (cvA c.clean)) (v' := .int .i64 3) rfl rfl rfl (by kernel_rfl) (hs_26.pt_at (i := 2) rfl) (by kernel_rfl) (by kernel_rfl) ?_
  exact ⟨rfl, hs_26.gr⟩
set_option maxRecDepth 100000 in
set_option maxHeartbeats 8000000 in
theorem prs_12 (c : Cor) (l : List Int) (w : World) (hok : c.Ok) (hl : ∀ c ∈ l, 0 ≤ c ∧ c < 256) (hn : l.length ≤ 300) (x0 x1 x2 x3 x4 x5 x6 x7 x8 x9 x10 x11 : Int) (ha : l.all isAcc = true) (hx : numsR l = [x0, x1, x2, x3, x4, x5, x6, x7, x8, x9, x10, x11]) (hb : In16 x0 ∧ In16 x1 ∧ In16 x2 ∧ In16 x3 ∧ In16 x4 ∧ In16 x5 ∧ In16 x6 ∧ In16 x7 ∧ In16 x8 ∧ In16 x9 ∧ In16 x10 ∧ In16 x11) : Calls Tryd.prog 18 #[.agg (cvA c), .string (strOf l)] w fun e w' => e = .returned (.tuple #[.agg (bif decide ((rcor c x0 x1 x2 x3 x4 x5 x6 x7 x8 x9 x10 x11).clean.clean.nums = [x0, x1, x2, x3, x4, x5, x6, x7, x8, x9, x10, x11]) then cvA (rcor c x0 x1 x2 x3 x4 x5 x6 x7 x8 x9 x10 x11).clean else cvA c.clean), .int .i64 (bif decide ((rcor c x0 x1 x2 x3 x4 x5 x6 x7 x8 x9 x10 x11).clean.clean.nums = [x0, x1, x2, x3, x4, x5, x6, x7, x8, x9, x10, x11]) then 0 else 3)]) ∧ Gr w w' := by
  have hcm := hok.clean.modes
  have hrk := rcor_ok hok x0 x1 x2 x3 x4 x5 x6 x7 x8 x9 x10 x11 hb
  have hrm := hrk.clean.modes
  obtain ⟨h0, h1, h2, h3, h4, h5, h6, h7, h8, h9, h10, h11⟩ := hb
  unfold In16 at *
  refine calls_sx (n := 91) (args := [.agg (cvA c), .string (strOf l)]) Tryd.func18 rfl rfl rfl ?_
  have hs0 := SH.none w
  refine CW.seq ?_
  refine CW.region ?_
  refine SL.newH (mk := fun g => .pointer (some ⟨g, 0, none⟩)) (C := (cvA c)) (T := 46) hs0 rfl rfl (by kernel_rfl) (fun g_1 w_2 hs_3 => ?_)
  have hs_3 : SH [] w w_2 [pt g_1 (cvA c) 46] := hs_3
  refine SL.newH (mk := fun g => .pointer (some ⟨g, 0, none⟩)) (C := czA) (T := 46) hs_3 rfl rfl (by kernel_rfl) (fun g_4 w_5 hs_6 => ?_)
  have hs_6 : SH [] w w_5 [pt g_1 (cvA c) 46, pt g_4 czA 46] := hs_6
  refine SL.v (.int .i64 0) ?_
  refine SL.nil ?_
  refine CW.seq ?_
  refine CW.region ?_
  refine SL.load (g := g_1) (off := 0) (v := .agg (cvA c)) rfl rfl rfl (by kernel_rfl) (hs_6.pt_at (i := 0) rfl) (by kernel_rfl) ?_
  refine SL.call (f := 10) (args := #[.agg (cvA c)]) (w1 := w_5) rfl rfl (by kernel_rfl) (clean_any c w_5 hok) ?_
  rintro x w_7 ⟨rfl, hc_8⟩
  refine ⟨.agg (cvA c.clean), rfl, ?_⟩
  have hs_9 := hs_6.grow hc_8
  refine SL.storeH (i := 0) (g := g_1) (off := 0) (v := .agg (cvA c.clean)) (L' := [pt g_1 (cvA c.clean) 46, pt g_4 czA 46]) hs_9 rfl rfl rfl (by kernel_rfl) (by kernel_rfl) rfl (by kernel_rfl) (by kernel_rfl) rfl (by kernel_rfl) rfl (fun w_10 hs_11 => ?_)
  refine SL.nil ?_
  refine CW.seq ?_
  refine CW.region ?_
  refine SL.v (.string (strOf l)) ?_
  refine SL.callH (f := 54) (args := #[.string (strOf l)]) (Pre := []) (Rest := [pt g_1 (cvA c.clean) 46, pt g_4 czA 46]) [] hs_11 rfl rfl (by kernel_rfl) rfl (pparse_12 l x0 x1 x2 x3 x4 x5 x6 x7 x8 x9 x10 x11 w_10 hl (by omega) ha hx) ?_
  rintro v_ Q_ w_15 ⟨g_12, c_13, pad_14, rfl, rfl⟩ hs_17
  have hs_17 : SH [] w w_15 [pt g_12 ⟨[.int .i64 x0, .int .i64 x1, .int .i64 x2, .int .i64 x3, .int .i64 x4, .int .i64 x5, .int .i64 x6, .int .i64 x7, .int .i64 x8, .int .i64 x9, .int .i64 x10, .int .i64 x11] ++ pad_14⟩ 3, pt g_1 (cvA c.clean) 46, pt g_4 czA 46] := hs_17
  refine SL.v (.tuple #[.slice (some ⟨g_12, 0, none⟩) 12 c_13, .int .i64 0]) ?_
  refine SL.v (.slice (some ⟨g_12, 0, none⟩) 12 c_13) ?_
  refine SL.v (.int .i64 0) ?_
  refine SL.v (.slice (some ⟨g_12, 0, none⟩) 12 c_13) ?_
  refine SL.v (.int .i64 0) ?_
  refine SL.nil ?_
  refine CW.seq ?_
  refine CW.seq ?_
  refine CW.region ?_
  refine SL.v (.int .i64 0) ?_
  refine SL.v (.bool false) ?_
  refine SL.v (.bool false) ?_
  refine SL.go ?_
  refine SL.v (.slice (some ⟨g_12, 0, none⟩) 12 c_13) ?_
  refine SL.go ?_
  refine SL.val (v := .int .i64 12) (w' := w_15) rfl rfl (by kernel_rfl) ?_
  refine SL.go ?_
  refine SL.load (g := g_1) (off := 0) (v := .agg (cvA c.clean)) rfl rfl rfl (by kernel_rfl) (hs_17.pt_at (i := 1) rfl) (by kernel_rfl) ?_
  refine SL.go ?_
  refine SL.call (f := 49) (args := #[.agg (cvA c.clean)]) (w1 := w_15) rfl rfl (by kernel_rfl) (nums_any c.clean w_15 hok.clean) ?_
  rintro x w_19 ⟨g_18, rfl, hb_22, hge_23, hc_20⟩
  refine ⟨.slice (some ⟨g_18, 0, none⟩) 12 12, rfl, ?_⟩
  have hs_21 := hs_17.fresh hc_20 hb_22 hge_23
  have hs_21 : SH [] w w_19 [pt g_12 ⟨[.int .i64 x0, .int .i64 x1, .int .i64 x2, .int .i64 x3, .int .i64 x4, .int .i64 x5, .int .i64 x6, .int .i64 x7, .int .i64 x8, .int .i64 x9, .int .i64 x10, .int .i64 x11] ++ pad_14⟩ 3, pt g_1 (cvA c.clean) 46, pt g_4 czA 46, pt g_18 (nmA c.clean.clean) 3] := hs_21
  refine SL.go ?_
  refine SL.val (v := .int .i64 12) (w' := w_19) rfl rfl (by kernel_rfl) ?_
  refine SL.go ?_
  refine SL.v (.bool false) ?_
  refine SL.v (.bool false) ?_
  refine SL.nil ?_
  refine CW.cond_false (by kernel_rfl) ?_
  refine CW.skip ?_
  refine CW.seq ?_
  refine CW.region ?_
  refine SL.load (g := g_1) (off := 0) (v := .agg (cvA c.clean)) rfl rfl rfl (by kernel_rfl) (hs_21.pt_at (i := 1) rfl) (by kernel_rfl) ?_
  refine SL.newH (mk := fun g => .pointer (some ⟨g, 0, none⟩)) (C := czA) (T := 46) hs_21 rfl rfl (by kernel_rfl) (fun g_24 w_25 hs_26 => ?_)
  have hs_26 : SH [] w w_25 [pt g_12 ⟨[.int .i64 x0, .int .i64 x1, .int .i64 x2, .int .i64 x3, .int .i64 x4, .int .i64 x5, .int .i64 x6, .int .i64 x7, .int .i64 x8, .int .i64 x9, .int .i64 x10, .int .i64 x11] ++ pad_14⟩ 3, pt g_1 (cvA c.clean) 46, pt g_4 czA 46, pt g_18 (nmA c.clean.clean) 3, pt g_24 czA 46] := hs_26
  refine SL.storeH (i := 4) (g := g_24) (off := 0) (v := .agg (cvA c.clean)) (L' := [pt g_12 ⟨[.int .i64 x0, .int .i64 x1, .int .i64 x2, .int .i64 x3, .int .i64 x4, .int .i64 x5, .int .i64 x6, .int .i64 x7, .int .i64 x8, .int .i64 x9, .int .i64 x10, .int .i64 x11] ++ pad_14⟩ 3, pt g_1 (cvA c.clean) 46, pt g_4 czA 46, pt g_18 (nmA c.clean.clean) 3, pt g_24 (cvA c.clean) 46]) hs_26 rfl rfl rfl (by kernel_rfl) (by kernel_rfl) rfl (by kernel_rfl) (by kernel_rfl) rfl (by kernel_rfl) rfl (fun w_27 hs_28 => ?_)
  refine SL.nil ?_
  refine CW.seq ?_
  obtain ⟨fj_29, hpj_30, hfr_31⟩ := hs_28.frame (Pre := [pt g_24 (cvA c.clean) 46]) (Rest := [pt g_12 ⟨[.int .i64 x0, .int .i64 x1, .int .i64 x2, .int .i64 x3, .int .i64 x4, .int .i64 x5, .int .i64 x6, .int .i64 x7, .int .i64 x8, .int .i64 x9, .int .i64 x10, .int .i64 x11] ++ pad_14⟩ 3, pt g_1 (cvA c.clean) 46, pt g_4 czA 46, pt g_18 (nmA c.clean.clean) 3]) [4] rfl
  have HGR : GrL [fun v _ => v = .slice (some ⟨g_12, 0, none⟩) 12 c_13, fun v _ => v = .pointer (some ⟨g_12, 0, none⟩), fun v _ => v = .int .i64 x0, fun v _ => v = .slice (some ⟨g_12, 0, none⟩) 12 c_13, fun v _ => v = .pointer (some ⟨g_12, 1, none⟩), fun v _ => v = .int .i64 x1, fun v _ => v = .bool (!(x1 == 0)), fun v _ => v = .slice (some ⟨g_12, 0, none⟩) 12 c_13, fun v _ => v = .pointer (some ⟨g_12, 2, none⟩), fun v _ => v = .int .i64 x2, fun v _ => v = .int .i64 (x2 * 4096), fun v _ => v = .slice (some ⟨g_12, 0, none⟩) 12 c_13, fun v _ => v = .pointer (some ⟨g_12, 3, none⟩), fun v _ => v = .int .i64 x3, fun v _ => v = .int .i64 ((x2 * 4096) + x3), fun v _ => v = .int .u32 ((x2 * 4096) + x3), fun v _ => v = .pointer (some ⟨g_24, 22, none⟩), fun _ _ => True, fun v _ => v = .pointer (some ⟨g_24, 23, none⟩), fun _ _ => True] := ⟨fun _ _ _ _ h => h, ⟨fun _ _ _ _ h => h, ⟨fun _ _ _ _ h => h, ⟨fun _ _ _ _ h => h, ⟨fun _ _ _ _ h => h, ⟨fun _ _ _ _ h => h, ⟨fun _ _ _ _ h => h, ⟨fun _ _ _ _ h => h, ⟨fun _ _ _ _ h => h, ⟨fun _ _ _ _ h => h, ⟨fun _ _ _ _ h => h, ⟨fun _ _ _ _ h => h, ⟨fun _ _ _ _ h => h, ⟨fun _ _ _ _ h => h, ⟨fun _ _ _ _ h => h, ⟨fun _ _ _ _ h => h, ⟨fun _ _ _ _ h => h, ⟨fun _ _ _ _ h => h, ⟨fun _ _ _ _ h => h, ⟨fun _ _ _ _ h => h, trivial⟩⟩⟩⟩⟩⟩⟩⟩⟩⟩⟩⟩⟩⟩⟩⟩⟩⟩⟩⟩
  have HPU : PureL [fun v _ => v = .slice (some ⟨g_12, 0, none⟩) 12 c_13, fun v _ => v = .pointer (some ⟨g_12, 0, none⟩), fun v _ => v = .int .i64 x0, fun v _ => v = .slice (some ⟨g_12, 0, none⟩) 12 c_13, fun v _ => v = .pointer (some ⟨g_12, 1, none⟩), fun v _ => v = .int .i64 x1, fun v _ => v = .bool (!(x1 == 0)), fun v _ => v = .slice (some ⟨g_12, 0, none⟩) 12 c_13, fun v _ => v = .pointer (some ⟨g_12, 2, none⟩), fun v _ => v = .int .i64 x2, fun v _ => v = .int .i64 (x2 * 4096), fun v _ => v = .slice (some ⟨g_12, 0, none⟩) 12 c_13, fun v _ => v = .pointer (some ⟨g_12, 3, none⟩), fun v _ => v = .int .i64 x3, fun v _ => v = .int .i64 ((x2 * 4096) + x3), fun v _ => v = .int .u32 ((x2 * 4096) + x3), fun v _ => v = .pointer (some ⟨g_24, 22, none⟩), fun _ _ => True, fun v _ => v = .pointer (some ⟨g_24, 23, none⟩), fun _ _ => True] := ⟨fun _ _ _ h => h, ⟨fun _ _ _ h => h, ⟨fun _ _ _ h => h, ⟨fun _ _ _ h => h, ⟨fun _ _ _ h => h, ⟨fun _ _ _ h => h, ⟨fun _ _ _ h => h, ⟨fun _ _ _ h => h, ⟨fun _ _ _ h => h, ⟨fun _ _ _ h => h, ⟨fun _ _ _ h => h, ⟨fun _ _ _ h => h, ⟨fun _ _ _ h => h, ⟨fun _ _ _ h => h, ⟨fun _ _ _ h => h, ⟨fun _ _ _ h => h, ⟨fun _ _ _ h => h, ⟨fun _ _ _ h => h, ⟨fun _ _ _ h => h, ⟨fun _ _ _ h => h, trivial⟩⟩⟩⟩⟩⟩⟩⟩⟩⟩⟩⟩⟩⟩⟩⟩⟩⟩⟩⟩
  refine CW.drawG 20 (FW [fun v _ => v = .slice (some ⟨g_12, 0, none⟩) 12 c_13, fun v _ => v = .pointer (some ⟨g_12, 0, none⟩), fun v _ => v = .int .i64 x0, fun v _ => v = .slice (some ⟨g_12, 0, none⟩) 12 c_13, fun v _ => v = .pointer (some ⟨g_12, 1, none⟩), fun v _ => v = .int .i64 x1, fun v _ => v = .bool (!(x1 == 0)), fun v _ => v = .slice (some ⟨g_12, 0, none⟩) 12 c_13, fun v _ => v = .pointer (some ⟨g_12, 2, none⟩), fun v _ => v = .int .i64 x2, fun v _ => v = .int .i64 (x2 * 4096), fun v _ => v = .slice (some ⟨g_12, 0, none⟩) 12 c_13, fun v _ => v = .pointer (some ⟨g_12, 3, none⟩), fun v _ => v = .int .i64 x3, fun v _ => v = .int .i64 ((x2 * 4096) + x3), fun v _ => v = .int .u32 ((x2 * 4096) + x3), fun v _ => v = .pointer (some ⟨g_24, 22, none⟩), fun _ _ => True, fun v _ => v = .pointer (some ⟨g_24, 23, none⟩), fun _ _ => True]) (BaseS [17, 19] fj_29 w_27 [[pt g_24 (cvA c.clean) 46], [pt g_24 #[.int .i64 c.clean.row, .int .i64 c.clean.col, .int .u8 c.clean.rend, .bool c.clean.kept, .bool c.clean.wrap, .bool c.clean.origin, .int .i64 c.clean.g0, .int .i64 c.clean.g1, .int .i64 c.clean.g2, .int .i64 c.clean.g3, .int .i64 c.clean.gl, .int .i64 c.clean.gr, .int .i64 c.clean.sg, .int .i64 c.clean.pt, .int .i64 c.clean.pl, .int .i64 c.clean.pb, .int .i64 c.clean.pr, .int .i64 c.clean.mt, .int .i64 c.clean.ml, .int .i64 c.clean.mb, .int .i64 c.clean.mr, .int .u32 c.clean.modes, .int .i64 x0, .bool c.clean.eight, .bool c.clean.stream, .int .i64 c.clean.status, .bool c.clean.below, .int .i64 c.clean.page, .int .i64 c.clean.pages] 46], [pt g_24 #[.int .i64 c.clean.row, .int .i64 c.clean.col, .int .u8 c.clean.rend, .bool c.clean.kept, .bool c.clean.wrap, .bool c.clean.origin, .int .i64 c.clean.g0, .int .i64 c.clean.g1, .int .i64 c.clean.g2, .int .i64 c.clean.g3, .int .i64 c.clean.gl, .int .i64 c.clean.gr, .int .i64 c.clean.sg, .int .i64 c.clean.pt, .int .i64 c.clean.pl, .int .i64 c.clean.pb, .int .i64 c.clean.pr, .int .i64 c.clean.mt, .int .i64 c.clean.ml, .int .i64 c.clean.mb, .int .i64 c.clean.mr, .int .u32 c.clean.modes, .int .i64 x0, .bool (!(x1 == 0)), .bool c.clean.stream, .int .i64 c.clean.status, .bool c.clean.below, .int .i64 c.clean.page, .int .i64 c.clean.pages] 46]]) (by kernel_rfl) (by kernel_rfl) (by kernel_rfl) (by kernel_rfl) (by kernel_rfl) (BaseS.init hpj_30) ?_ ?_
  · refine ⟨?_, ⟨?_, ⟨?_, ⟨?_, ⟨?_, ⟨?_, ⟨?_, ⟨?_, ⟨?_, ⟨?_, ⟨?_, ⟨?_, ⟨?_, ⟨?_, ⟨?_, ⟨?_, ⟨?_, ⟨?_, ⟨?_, ⟨?_, trivial⟩⟩⟩⟩⟩⟩⟩⟩⟩⟩⟩⟩⟩⟩⟩⟩⟩⟩⟩⟩
    · intro L ys W hC hn hB hF hP K hK
      show OpE _ _ _ W K
      exact OpE.val (.slice (some ⟨g_12, 0, none⟩) 12 c_13) W (by kernel_rfl) (hK _ W (hB.step (by decide) (Gr.refl W)) rfl (fun _ _ h => h))
    · intro L ys W hC hn hB hF hP K hK
      show OpE _ _ _ W K
      exact OpE.known (j := 0) (v := .slice (some ⟨g_12, 0, none⟩) 12 c_13) (hF 0 (hP.1 rfl)) (OpE.val (.pointer (some ⟨g_12, 0, none⟩)) W (by kernel_rfl) (hK _ W (hB.step (by decide) (Gr.refl W)) rfl (fun _ _ h => h)))
    · intro L ys W hC hn hB hF hP K hK
      show OpE _ _ _ W K
      exact OpE.known (j := 1) (v := .pointer (some ⟨g_12, 0, none⟩)) (hF 1 (hP.1 rfl)) (OpE.load (g := g_12) (off := 0) (v := .int .i64 x0) rfl (by kernel_rfl) ((show SH [] w W [pt g_12 ⟨[.int .i64 x0, .int .i64 x1, .int .i64 x2, .int .i64 x3, .int .i64 x4, .int .i64 x5, .int .i64 x6, .int .i64 x7, .int .i64 x8, .int .i64 x9, .int .i64 x10, .int .i64 x11] ++ pad_14⟩ 3, pt g_1 (cvA c.clean) 46, pt g_4 czA 46, pt g_18 (nmA c.clean.clean) 3] from hfr_31 W [] [] hB.upd rfl (by simp)).pt_at (i := 0) rfl) (by kernel_rfl) (hK _ W (hB.step (by decide) (Gr.refl W)) rfl (fun _ _ h => h)))
    · intro L ys W hC hn hB hF hP K hK
      show OpE _ _ _ W K
      exact OpE.val (.slice (some ⟨g_12, 0, none⟩) 12 c_13) W (by kernel_rfl) (hK _ W (hB.step (by decide) (Gr.refl W)) rfl (fun _ _ h => h))
    · intro L ys W hC hn hB hF hP K hK
      show OpE _ _ _ W K
      exact OpE.known (j := 3) (v := .slice (some ⟨g_12, 0, none⟩) 12 c_13) (hF 3 (hP.1 rfl)) (OpE.val (.pointer (some ⟨g_12, 1, none⟩)) W (by kernel_rfl) (hK _ W (hB.step (by decide) (Gr.refl W)) rfl (fun _ _ h => h)))
    · intro L ys W hC hn hB hF hP K hK
      show OpE _ _ _ W K
      exact OpE.known (j := 4) (v := .pointer (some ⟨g_12, 1, none⟩)) (hF 4 (hP.1 rfl)) (OpE.load (g := g_12) (off := 1) (v := .int .i64 x1) rfl (by kernel_rfl) ((show SH [] w W [pt g_12 ⟨[.int .i64 x0, .int .i64 x1, .int .i64 x2, .int .i64 x3, .int .i64 x4, .int .i64 x5, .int .i64 x6, .int .i64 x7, .int .i64 x8, .int .i64 x9, .int .i64 x10, .int .i64 x11] ++ pad_14⟩ 3, pt g_1 (cvA c.clean) 46, pt g_4 czA 46, pt g_18 (nmA c.clean.clean) 3] from hfr_31 W [] [] hB.upd rfl (by simp)).pt_at (i := 0) rfl) (by kernel_rfl) (hK _ W (hB.step (by decide) (Gr.refl W)) rfl (fun _ _ h => h)))
    · intro L ys W hC hn hB hF hP K hK
      show OpE _ _ _ W K
      exact OpE.known (j := 5) (v := .int .i64 x1) (hF 5 (hP.1 rfl)) (OpE.val (.bool (!(x1 == 0))) W (by kernel_rfl) (hK _ W (hB.step (by decide) (Gr.refl W)) rfl (fun _ _ h => h)))
    · intro L ys W hC hn hB hF hP K hK
      show OpE _ _ _ W K
      exact OpE.val (.slice (some ⟨g_12, 0, none⟩) 12 c_13) W (by kernel_rfl) (hK _ W (hB.step (by decide) (Gr.refl W)) rfl (fun _ _ h => h))
    · intro L ys W hC hn hB hF hP K hK
      show OpE _ _ _ W K
      exact OpE.known (j := 7) (v := .slice (some ⟨g_12, 0, none⟩) 12 c_13) (hF 7 (hP.1 rfl)) (OpE.val (.pointer (some ⟨g_12, 2, none⟩)) W (by kernel_rfl) (hK _ W (hB.step (by decide) (Gr.refl W)) rfl (fun _ _ h => h)))
    · intro L ys W hC hn hB hF hP K hK
      show OpE _ _ _ W K
      exact OpE.known (j := 8) (v := .pointer (some ⟨g_12, 2, none⟩)) (hF 8 (hP.1 rfl)) (OpE.load (g := g_12) (off := 2) (v := .int .i64 x2) rfl (by kernel_rfl) ((show SH [] w W [pt g_12 ⟨[.int .i64 x0, .int .i64 x1, .int .i64 x2, .int .i64 x3, .int .i64 x4, .int .i64 x5, .int .i64 x6, .int .i64 x7, .int .i64 x8, .int .i64 x9, .int .i64 x10, .int .i64 x11] ++ pad_14⟩ 3, pt g_1 (cvA c.clean) 46, pt g_4 czA 46, pt g_18 (nmA c.clean.clean) 3] from hfr_31 W [] [] hB.upd rfl (by simp)).pt_at (i := 0) rfl) (by kernel_rfl) (hK _ W (hB.step (by decide) (Gr.refl W)) rfl (fun _ _ h => h)))
    · intro L ys W hC hn hB hF hP K hK
      show OpE _ _ _ W K
      exact OpE.known (j := 9) (v := .int .i64 x2) (hF 9 (hP.1 rfl)) (OpE.val (.int .i64 (x2 * 4096)) W (by have hw : IntKind.i64.wrap (x2 * 4096) = x2 * 4096 := IntWalk.i64_in _ (by omega); exact run_eqv (by kernel_rfl) (congrArg (fun z => Value.int .i64 z) hw)) (hK _ W (hB.step (by decide) (Gr.refl W)) rfl (fun _ _ h => h)))
    · intro L ys W hC hn hB hF hP K hK
      show OpE _ _ _ W K
      exact OpE.val (.slice (some ⟨g_12, 0, none⟩) 12 c_13) W (by kernel_rfl) (hK _ W (hB.step (by decide) (Gr.refl W)) rfl (fun _ _ h => h))
    · intro L ys W hC hn hB hF hP K hK
      show OpE _ _ _ W K
      exact OpE.known (j := 11) (v := .slice (some ⟨g_12, 0, none⟩) 12 c_13) (hF 11 (hP.1 rfl)) (OpE.val (.pointer (some ⟨g_12, 3, none⟩)) W (by kernel_rfl) (hK _ W (hB.step (by decide) (Gr.refl W)) rfl (fun _ _ h => h)))
    · intro L ys W hC hn hB hF hP K hK
      show OpE _ _ _ W K
      exact OpE.known (j := 12) (v := .pointer (some ⟨g_12, 3, none⟩)) (hF 12 (hP.1 rfl)) (OpE.load (g := g_12) (off := 3) (v := .int .i64 x3) rfl (by kernel_rfl) ((show SH [] w W [pt g_12 ⟨[.int .i64 x0, .int .i64 x1, .int .i64 x2, .int .i64 x3, .int .i64 x4, .int .i64 x5, .int .i64 x6, .int .i64 x7, .int .i64 x8, .int .i64 x9, .int .i64 x10, .int .i64 x11] ++ pad_14⟩ 3, pt g_1 (cvA c.clean) 46, pt g_4 czA 46, pt g_18 (nmA c.clean.clean) 3] from hfr_31 W [] [] hB.upd rfl (by simp)).pt_at (i := 0) rfl) (by kernel_rfl) (hK _ W (hB.step (by decide) (Gr.refl W)) rfl (fun _ _ h => h)))
    · intro L ys W hC hn hB hF hP K hK
      show OpE _ _ _ W K
      exact OpE.known (j := 10) (v := .int .i64 (x2 * 4096)) (hF 10 (hP.1 rfl)) (OpE.known (j := 13) (v := .int .i64 x3) (hF 13 (hP.2.1 rfl)) (OpE.val (.int .i64 ((x2 * 4096) + x3)) W (by have hw : IntKind.i64.wrap ((x2 * 4096) + x3) = (x2 * 4096) + x3 := IntWalk.i64_in _ (by omega); exact run_eqv (by kernel_rfl) (congrArg (fun z => Value.int .i64 z) hw)) (hK _ W (hB.step (by decide) (Gr.refl W)) rfl (fun _ _ h => h))))
    · intro L ys W hC hn hB hF hP K hK
      show OpE _ _ _ W K
      exact OpE.known (j := 14) (v := .int .i64 ((x2 * 4096) + x3)) (hF 14 (hP.1 rfl)) (OpE.val (.int .u32 ((x2 * 4096) + x3)) W (by have hw : IntKind.u32.wrap ((x2 * 4096) + x3) = (x2 * 4096) + x3 := wrap_u32 (by omega) (by omega); exact run_eqv (by kernel_rfl) (congrArg (fun z => Value.int .u32 z) hw)) (hK _ W (hB.step (by decide) (Gr.refl W)) rfl (fun _ _ h => h)))
    · intro L ys W hC hn hB hF hP K hK
      show OpE _ _ _ W K
      exact OpE.val (.pointer (some ⟨g_24, 22, none⟩)) W (by kernel_rfl) (hK _ W (hB.step (by decide) (Gr.refl W)) rfl (fun _ _ h => h))
    · intro L ys W hC hn hB hF hP K hK
      show OpE _ _ _ W K
      have hst := hB.at_ (k := 0) (P := [pt g_24 (cvA c.clean) 46]) rfl (by decide) rfl prev_0 (next_at 17 rfl hn)
      obtain ⟨hq_, hu_⟩ := hst.setCells (i := 0) (g := g_24) (C := (cvA c.clean)) (T := 46) rfl 22 ((.int .i64 x0 : Value).cells.toList)
      exact OpE.known (j := 16) (v := .pointer (some ⟨g_24, 22, none⟩)) (hF 16 (hP.1 rfl)) (OpE.known (j := 2) (v := .int .i64 x0) (hF 2 (hP.2.2.2.2.1 rfl)) (OpE.store (g := g_24) (off := 22) (C := (cvA c.clean)) (T := 46) (v := .int .i64 x0) rfl (by kernel_rfl) (by kernel_rfl) (hst.pt_at (i := 0) rfl) (by kernel_rfl) (by kernel_rfl) (by kernel_rfl) (hK _ _ (hB.done (k := 0) (P := [pt g_24 (cvA c.clean) 46]) (P' := [pt g_24 #[.int .i64 c.clean.row, .int .i64 c.clean.col, .int .u8 c.clean.rend, .bool c.clean.kept, .bool c.clean.wrap, .bool c.clean.origin, .int .i64 c.clean.g0, .int .i64 c.clean.g1, .int .i64 c.clean.g2, .int .i64 c.clean.g3, .int .i64 c.clean.gl, .int .i64 c.clean.gr, .int .i64 c.clean.sg, .int .i64 c.clean.pt, .int .i64 c.clean.pl, .int .i64 c.clean.pb, .int .i64 c.clean.pr, .int .i64 c.clean.mt, .int .i64 c.clean.ml, .int .i64 c.clean.mb, .int .i64 c.clean.mr, .int .u32 c.clean.modes, .int .i64 x0, .bool c.clean.eight, .bool c.clean.stream, .int .i64 c.clean.status, .bool c.clean.below, .int .i64 c.clean.page, .int .i64 c.clean.pages] 46]) rfl (by decide) rfl rfl rfl prev_0 hn hu_ hq_) trivial (fun _ _ h => FW.pureL HPU h))))
    · intro L ys W hC hn hB hF hP K hK
      show OpE _ _ _ W K
      exact OpE.val (.pointer (some ⟨g_24, 23, none⟩)) W (by kernel_rfl) (hK _ W (hB.step (by decide) (Gr.refl W)) rfl (fun _ _ h => h))
    · intro L ys W hC hn hB hF hP K hK
      show OpE _ _ _ W K
      have hst := hB.at_ (k := 1) (P := [pt g_24 #[.int .i64 c.clean.row, .int .i64 c.clean.col, .int .u8 c.clean.rend, .bool c.clean.kept, .bool c.clean.wrap, .bool c.clean.origin, .int .i64 c.clean.g0, .int .i64 c.clean.g1, .int .i64 c.clean.g2, .int .i64 c.clean.g3, .int .i64 c.clean.gl, .int .i64 c.clean.gr, .int .i64 c.clean.sg, .int .i64 c.clean.pt, .int .i64 c.clean.pl, .int .i64 c.clean.pb, .int .i64 c.clean.pr, .int .i64 c.clean.mt, .int .i64 c.clean.ml, .int .i64 c.clean.mb, .int .i64 c.clean.mr, .int .u32 c.clean.modes, .int .i64 x0, .bool c.clean.eight, .bool c.clean.stream, .int .i64 c.clean.status, .bool c.clean.below, .int .i64 c.clean.page, .int .i64 c.clean.pages] 46]) rfl (by decide) rfl (prev_at (k := 0) 17 rfl (hP.2.2.2.2.2.2.2.2.2.2.2.2.2.2.2.2.2.2.2.2.1 rfl)) (next_at 19 rfl hn)
      obtain ⟨hq_, hu_⟩ := hst.setCells (i := 0) (g := g_24) (C := #[.int .i64 c.clean.row, .int .i64 c.clean.col, .int .u8 c.clean.rend, .bool c.clean.kept, .bool c.clean.wrap, .bool c.clean.origin, .int .i64 c.clean.g0, .int .i64 c.clean.g1, .int .i64 c.clean.g2, .int .i64 c.clean.g3, .int .i64 c.clean.gl, .int .i64 c.clean.gr, .int .i64 c.clean.sg, .int .i64 c.clean.pt, .int .i64 c.clean.pl, .int .i64 c.clean.pb, .int .i64 c.clean.pr, .int .i64 c.clean.mt, .int .i64 c.clean.ml, .int .i64 c.clean.mb, .int .i64 c.clean.mr, .int .u32 c.clean.modes, .int .i64 x0, .bool c.clean.eight, .bool c.clean.stream, .int .i64 c.clean.status, .bool c.clean.below, .int .i64 c.clean.page, .int .i64 c.clean.pages]) (T := 46) rfl 23 ((.bool (!(x1 == 0)) : Value).cells.toList)
      exact OpE.known (j := 18) (v := .pointer (some ⟨g_24, 23, none⟩)) (hF 18 (hP.1 rfl)) (OpE.known (j := 6) (v := .bool (!(x1 == 0))) (hF 6 (hP.2.2.2.2.2.2.2.2.2.1 rfl)) (OpE.store (g := g_24) (off := 23) (C := #[.int .i64 c.clean.row, .int .i64 c.clean.col, .int .u8 c.clean.rend, .bool c.clean.kept, .bool c.clean.wrap, .bool c.clean.origin, .int .i64 c.clean.g0, .int .i64 c.clean.g1, .int .i64 c.clean.g2, .int .i64 c.clean.g3, .int .i64 c.clean.gl, .int .i64 c.clean.gr, .int .i64 c.clean.sg, .int .i64 c.clean.pt, .int .i64 c.clean.pl, .int .i64 c.clean.pb, .int .i64 c.clean.pr, .int .i64 c.clean.mt, .int .i64 c.clean.ml, .int .i64 c.clean.mb, .int .i64 c.clean.mr, .int .u32 c.clean.modes, .int .i64 x0, .bool c.clean.eight, .bool c.clean.stream, .int .i64 c.clean.status, .bool c.clean.below, .int .i64 c.clean.page, .int .i64 c.clean.pages]) (T := 46) (v := .bool (!(x1 == 0))) rfl (by kernel_rfl) (by kernel_rfl) (hst.pt_at (i := 0) rfl) (by kernel_rfl) (by kernel_rfl) (by kernel_rfl) (hK _ _ (hB.done (k := 1) (P := [pt g_24 #[.int .i64 c.clean.row, .int .i64 c.clean.col, .int .u8 c.clean.rend, .bool c.clean.kept, .bool c.clean.wrap, .bool c.clean.origin, .int .i64 c.clean.g0, .int .i64 c.clean.g1, .int .i64 c.clean.g2, .int .i64 c.clean.g3, .int .i64 c.clean.gl, .int .i64 c.clean.gr, .int .i64 c.clean.sg, .int .i64 c.clean.pt, .int .i64 c.clean.pl, .int .i64 c.clean.pb, .int .i64 c.clean.pr, .int .i64 c.clean.mt, .int .i64 c.clean.ml, .int .i64 c.clean.mb, .int .i64 c.clean.mr, .int .u32 c.clean.modes, .int .i64 x0, .bool c.clean.eight, .bool c.clean.stream, .int .i64 c.clean.status, .bool c.clean.below, .int .i64 c.clean.page, .int .i64 c.clean.pages] 46]) (P' := [pt g_24 #[.int .i64 c.clean.row, .int .i64 c.clean.col, .int .u8 c.clean.rend, .bool c.clean.kept, .bool c.clean.wrap, .bool c.clean.origin, .int .i64 c.clean.g0, .int .i64 c.clean.g1, .int .i64 c.clean.g2, .int .i64 c.clean.g3, .int .i64 c.clean.gl, .int .i64 c.clean.gr, .int .i64 c.clean.sg, .int .i64 c.clean.pt, .int .i64 c.clean.pl, .int .i64 c.clean.pb, .int .i64 c.clean.pr, .int .i64 c.clean.mt, .int .i64 c.clean.ml, .int .i64 c.clean.mb, .int .i64 c.clean.mr, .int .u32 c.clean.modes, .int .i64 x0, .bool (!(x1 == 0)), .bool c.clean.stream, .int .i64 c.clean.status, .bool c.clean.below, .int .i64 c.clean.page, .int .i64 c.clean.pages] 46]) rfl (by decide) rfl rfl rfl (prev_at (k := 0) 17 rfl (hP.2.2.2.2.2.2.2.2.2.2.2.2.2.2.2.2.2.2.2.2.1 rfl)) hn hu_ hq_) trivial (fun _ _ h => FW.pureL HPU h))))
  · intro ys_36 w_32 hb_33 hF_35
    have hst_ := hb_33.at_ (k := 2) (P := [pt g_24 #[.int .i64 c.clean.row, .int .i64 c.clean.col, .int .u8 c.clean.rend, .bool c.clean.kept, .bool c.clean.wrap, .bool c.clean.origin, .int .i64 c.clean.g0, .int .i64 c.clean.g1, .int .i64 c.clean.g2, .int .i64 c.clean.g3, .int .i64 c.clean.gl, .int .i64 c.clean.gr, .int .i64 c.clean.sg, .int .i64 c.clean.pt, .int .i64 c.clean.pl, .int .i64 c.clean.pb, .int .i64 c.clean.pr, .int .i64 c.clean.mt, .int .i64 c.clean.ml, .int .i64 c.clean.mb, .int .i64 c.clean.mr, .int .u32 c.clean.modes, .int .i64 x0, .bool (!(x1 == 0)), .bool c.clean.stream, .int .i64 c.clean.status, .bool c.clean.below, .int .i64 c.clean.page, .int .i64 c.clean.pages] 46]) rfl (by decide) rfl (prev_at (k := 1) 19 rfl (by decide)) (next_end rfl)
    have hs_34 : SH [] w w_32 [pt g_24 #[.int .i64 c.clean.row, .int .i64 c.clean.col, .int .u8 c.clean.rend, .bool c.clean.kept, .bool c.clean.wrap, .bool c.clean.origin, .int .i64 c.clean.g0, .int .i64 c.clean.g1, .int .i64 c.clean.g2, .int .i64 c.clean.g3, .int .i64 c.clean.gl, .int .i64 c.clean.gr, .int .i64 c.clean.sg, .int .i64 c.clean.pt, .int .i64 c.clean.pl, .int .i64 c.clean.pb, .int .i64 c.clean.pr, .int .i64 c.clean.mt, .int .i64 c.clean.ml, .int .i64 c.clean.mb, .int .i64 c.clean.mr, .int .u32 c.clean.modes, .int .i64 x0, .bool (!(x1 == 0)), .bool c.clean.stream, .int .i64 c.clean.status, .bool c.clean.below, .int .i64 c.clean.page, .int .i64 c.clean.pages] 46, pt g_12 ⟨[.int .i64 x0, .int .i64 x1, .int .i64 x2, .int .i64 x3, .int .i64 x4, .int .i64 x5, .int .i64 x6, .int .i64 x7, .int .i64 x8, .int .i64 x9, .int .i64 x10, .int .i64 x11] ++ pad_14⟩ 3, pt g_1 (cvA c.clean) 46, pt g_4 czA 46, pt g_18 (nmA c.clean.clean) 3] := hfr_31 w_32 _ fj_29 hb_33.upd hst_ (fun g hg => .inl hg)
    refine SL.knownY (j := 15) (v := .int .u32 ((x2 * 4096) + x3)) (show ys_36 15 = .int .u32 ((x2 * 4096) + x3) from hF_35 15 (by decide)) (?_)
    clear hF_35 HGR HPU hst_ hb_33 hfr_31 hpj_30
    refine SL.v (.pointer (some ⟨g_24, 21, none⟩)) ?_
    refine SL.storeH (i := 0) (g := g_24) (off := 21) (v := .int .u32 ((x2 * 4096) + x3)) (L' := [pt g_24 #[.int .i64 c.clean.row, .int .i64 c.clean.col, .int .u8 c.clean.rend, .bool c.clean.kept, .bool c.clean.wrap, .bool c.clean.origin, .int .i64 c.clean.g0, .int .i64 c.clean.g1, .int .i64 c.clean.g2, .int .i64 c.clean.g3, .int .i64 c.clean.gl, .int .i64 c.clean.gr, .int .i64 c.clean.sg, .int .i64 c.clean.pt, .int .i64 c.clean.pl, .int .i64 c.clean.pb, .int .i64 c.clean.pr, .int .i64 c.clean.mt, .int .i64 c.clean.ml, .int .i64 c.clean.mb, .int .i64 c.clean.mr, .int .u32 ((x2 * 4096) + x3), .int .i64 x0, .bool (!(x1 == 0)), .bool c.clean.stream, .int .i64 c.clean.status, .bool c.clean.below, .int .i64 c.clean.page, .int .i64 c.clean.pages] 46, pt g_12 ⟨[.int .i64 x0, .int .i64 x1, .int .i64 x2, .int .i64 x3, .int .i64 x4, .int .i64 x5, .int .i64 x6, .int .i64 x7, .int .i64 x8, .int .i64 x9, .int .i64 x10, .int .i64 x11] ++ pad_14⟩ 3, pt g_1 (cvA c.clean) 46, pt g_4 czA 46, pt g_18 (nmA c.clean.clean) 3]) hs_34 rfl rfl rfl (by kernel_rfl) (by kernel_rfl) rfl (by kernel_rfl) (by kernel_rfl) rfl (by kernel_rfl) rfl (fun w_37 hs_38 => ?_)
    refine SL.nil ?_
    refine CW.seq ?_
    obtain ⟨fj_39, hpj_40, hfr_41⟩ := hs_38.frame (Pre := [pt g_24 #[.int .i64 c.clean.row, .int .i64 c.clean.col, .int .u8 c.clean.rend, .bool c.clean.kept, .bool c.clean.wrap, .bool c.clean.origin, .int .i64 c.clean.g0, .int .i64 c.clean.g1, .int .i64 c.clean.g2, .int .i64 c.clean.g3, .int .i64 c.clean.gl, .int .i64 c.clean.gr, .int .i64 c.clean.sg, .int .i64 c.clean.pt, .int .i64 c.clean.pl, .int .i64 c.clean.pb, .int .i64 c.clean.pr, .int .i64 c.clean.mt, .int .i64 c.clean.ml, .int .i64 c.clean.mb, .int .i64 c.clean.mr, .int .u32 ((x2 * 4096) + x3), .int .i64 x0, .bool (!(x1 == 0)), .bool c.clean.stream, .int .i64 c.clean.status, .bool c.clean.below, .int .i64 c.clean.page, .int .i64 c.clean.pages] 46]) (Rest := [pt g_12 ⟨[.int .i64 x0, .int .i64 x1, .int .i64 x2, .int .i64 x3, .int .i64 x4, .int .i64 x5, .int .i64 x6, .int .i64 x7, .int .i64 x8, .int .i64 x9, .int .i64 x10, .int .i64 x11] ++ pad_14⟩ 3, pt g_1 (cvA c.clean) 46, pt g_4 czA 46, pt g_18 (nmA c.clean.clean) 3]) [0] rfl
    have HGR : GrL [fun v _ => v = .slice (some ⟨g_12, 0, none⟩) 12 c_13, fun v _ => v = .pointer (some ⟨g_12, 4, none⟩), fun v _ => v = .int .i64 x4, fun v _ => v = .bool (!(x4 == 0)), fun v _ => v = .slice (some ⟨g_12, 0, none⟩) 12 c_13, fun v _ => v = .pointer (some ⟨g_12, 5, none⟩), fun v _ => v = .int .i64 x5, fun v _ => v = .slice (some ⟨g_12, 0, none⟩) 12 c_13, fun v _ => v = .pointer (some ⟨g_12, 6, none⟩), fun v _ => v = .int .i64 x6, fun v _ => v = .bool (!(x6 == 0)), fun v _ => v = .pointer (some ⟨g_24, 24, none⟩), fun _ _ => True, fun v _ => v = .pointer (some ⟨g_24, 25, none⟩), fun _ _ => True] := ⟨fun _ _ _ _ h => h, ⟨fun _ _ _ _ h => h, ⟨fun _ _ _ _ h => h, ⟨fun _ _ _ _ h => h, ⟨fun _ _ _ _ h => h, ⟨fun _ _ _ _ h => h, ⟨fun _ _ _ _ h => h, ⟨fun _ _ _ _ h => h, ⟨fun _ _ _ _ h => h, ⟨fun _ _ _ _ h => h, ⟨fun _ _ _ _ h => h, ⟨fun _ _ _ _ h => h, ⟨fun _ _ _ _ h => h, ⟨fun _ _ _ _ h => h, ⟨fun _ _ _ _ h => h, trivial⟩⟩⟩⟩⟩⟩⟩⟩⟩⟩⟩⟩⟩⟩⟩
    have HPU : PureL [fun v _ => v = .slice (some ⟨g_12, 0, none⟩) 12 c_13, fun v _ => v = .pointer (some ⟨g_12, 4, none⟩), fun v _ => v = .int .i64 x4, fun v _ => v = .bool (!(x4 == 0)), fun v _ => v = .slice (some ⟨g_12, 0, none⟩) 12 c_13, fun v _ => v = .pointer (some ⟨g_12, 5, none⟩), fun v _ => v = .int .i64 x5, fun v _ => v = .slice (some ⟨g_12, 0, none⟩) 12 c_13, fun v _ => v = .pointer (some ⟨g_12, 6, none⟩), fun v _ => v = .int .i64 x6, fun v _ => v = .bool (!(x6 == 0)), fun v _ => v = .pointer (some ⟨g_24, 24, none⟩), fun _ _ => True, fun v _ => v = .pointer (some ⟨g_24, 25, none⟩), fun _ _ => True] := ⟨fun _ _ _ h => h, ⟨fun _ _ _ h => h, ⟨fun _ _ _ h => h, ⟨fun _ _ _ h => h, ⟨fun _ _ _ h => h, ⟨fun _ _ _ h => h, ⟨fun _ _ _ h => h, ⟨fun _ _ _ h => h, ⟨fun _ _ _ h => h, ⟨fun _ _ _ h => h, ⟨fun _ _ _ h => h, ⟨fun _ _ _ h => h, ⟨fun _ _ _ h => h, ⟨fun _ _ _ h => h, ⟨fun _ _ _ h => h, trivial⟩⟩⟩⟩⟩⟩⟩⟩⟩⟩⟩⟩⟩⟩⟩
    refine CW.drawG 15 (FW [fun v _ => v = .slice (some ⟨g_12, 0, none⟩) 12 c_13, fun v _ => v = .pointer (some ⟨g_12, 4, none⟩), fun v _ => v = .int .i64 x4, fun v _ => v = .bool (!(x4 == 0)), fun v _ => v = .slice (some ⟨g_12, 0, none⟩) 12 c_13, fun v _ => v = .pointer (some ⟨g_12, 5, none⟩), fun v _ => v = .int .i64 x5, fun v _ => v = .slice (some ⟨g_12, 0, none⟩) 12 c_13, fun v _ => v = .pointer (some ⟨g_12, 6, none⟩), fun v _ => v = .int .i64 x6, fun v _ => v = .bool (!(x6 == 0)), fun v _ => v = .pointer (some ⟨g_24, 24, none⟩), fun _ _ => True, fun v _ => v = .pointer (some ⟨g_24, 25, none⟩), fun _ _ => True]) (BaseS [12, 14] fj_39 w_37 [[pt g_24 #[.int .i64 c.clean.row, .int .i64 c.clean.col, .int .u8 c.clean.rend, .bool c.clean.kept, .bool c.clean.wrap, .bool c.clean.origin, .int .i64 c.clean.g0, .int .i64 c.clean.g1, .int .i64 c.clean.g2, .int .i64 c.clean.g3, .int .i64 c.clean.gl, .int .i64 c.clean.gr, .int .i64 c.clean.sg, .int .i64 c.clean.pt, .int .i64 c.clean.pl, .int .i64 c.clean.pb, .int .i64 c.clean.pr, .int .i64 c.clean.mt, .int .i64 c.clean.ml, .int .i64 c.clean.mb, .int .i64 c.clean.mr, .int .u32 ((x2 * 4096) + x3), .int .i64 x0, .bool (!(x1 == 0)), .bool c.clean.stream, .int .i64 c.clean.status, .bool c.clean.below, .int .i64 c.clean.page, .int .i64 c.clean.pages] 46], [pt g_24 #[.int .i64 c.clean.row, .int .i64 c.clean.col, .int .u8 c.clean.rend, .bool c.clean.kept, .bool c.clean.wrap, .bool c.clean.origin, .int .i64 c.clean.g0, .int .i64 c.clean.g1, .int .i64 c.clean.g2, .int .i64 c.clean.g3, .int .i64 c.clean.gl, .int .i64 c.clean.gr, .int .i64 c.clean.sg, .int .i64 c.clean.pt, .int .i64 c.clean.pl, .int .i64 c.clean.pb, .int .i64 c.clean.pr, .int .i64 c.clean.mt, .int .i64 c.clean.ml, .int .i64 c.clean.mb, .int .i64 c.clean.mr, .int .u32 ((x2 * 4096) + x3), .int .i64 x0, .bool (!(x1 == 0)), .bool (!(x4 == 0)), .int .i64 c.clean.status, .bool c.clean.below, .int .i64 c.clean.page, .int .i64 c.clean.pages] 46], [pt g_24 #[.int .i64 c.clean.row, .int .i64 c.clean.col, .int .u8 c.clean.rend, .bool c.clean.kept, .bool c.clean.wrap, .bool c.clean.origin, .int .i64 c.clean.g0, .int .i64 c.clean.g1, .int .i64 c.clean.g2, .int .i64 c.clean.g3, .int .i64 c.clean.gl, .int .i64 c.clean.gr, .int .i64 c.clean.sg, .int .i64 c.clean.pt, .int .i64 c.clean.pl, .int .i64 c.clean.pb, .int .i64 c.clean.pr, .int .i64 c.clean.mt, .int .i64 c.clean.ml, .int .i64 c.clean.mb, .int .i64 c.clean.mr, .int .u32 ((x2 * 4096) + x3), .int .i64 x0, .bool (!(x1 == 0)), .bool (!(x4 == 0)), .int .i64 x5, .bool c.clean.below, .int .i64 c.clean.page, .int .i64 c.clean.pages] 46]]) (by kernel_rfl) (by kernel_rfl) (by kernel_rfl) (by kernel_rfl) (by kernel_rfl) (BaseS.init hpj_40) ?_ ?_
    · refine ⟨?_, ⟨?_, ⟨?_, ⟨?_, ⟨?_, ⟨?_, ⟨?_, ⟨?_, ⟨?_, ⟨?_, ⟨?_, ⟨?_, ⟨?_, ⟨?_, ⟨?_, trivial⟩⟩⟩⟩⟩⟩⟩⟩⟩⟩⟩⟩⟩⟩⟩
      · intro L ys W hC hn hB hF hP K hK
        show OpE _ _ _ W K
        exact OpE.val (.slice (some ⟨g_12, 0, none⟩) 12 c_13) W (by kernel_rfl) (hK _ W (hB.step (by decide) (Gr.refl W)) rfl (fun _ _ h => h))
      · intro L ys W hC hn hB hF hP K hK
        show OpE _ _ _ W K
        exact OpE.known (j := 0) (v := .slice (some ⟨g_12, 0, none⟩) 12 c_13) (hF 0 (hP.1 rfl)) (OpE.val (.pointer (some ⟨g_12, 4, none⟩)) W (by kernel_rfl) (hK _ W (hB.step (by decide) (Gr.refl W)) rfl (fun _ _ h => h)))
      · intro L ys W hC hn hB hF hP K hK
        show OpE _ _ _ W K
        exact OpE.known (j := 1) (v := .pointer (some ⟨g_12, 4, none⟩)) (hF 1 (hP.1 rfl)) (OpE.load (g := g_12) (off := 4) (v := .int .i64 x4) rfl (by kernel_rfl) ((show SH [] w W [pt g_12 ⟨[.int .i64 x0, .int .i64 x1, .int .i64 x2, .int .i64 x3, .int .i64 x4, .int .i64 x5, .int .i64 x6, .int .i64 x7, .int .i64 x8, .int .i64 x9, .int .i64 x10, .int .i64 x11] ++ pad_14⟩ 3, pt g_1 (cvA c.clean) 46, pt g_4 czA 46, pt g_18 (nmA c.clean.clean) 3] from hfr_41 W [] [] hB.upd rfl (by simp)).pt_at (i := 0) rfl) (by kernel_rfl) (hK _ W (hB.step (by decide) (Gr.refl W)) rfl (fun _ _ h => h)))
      · intro L ys W hC hn hB hF hP K hK
        show OpE _ _ _ W K
        exact OpE.known (j := 2) (v := .int .i64 x4) (hF 2 (hP.1 rfl)) (OpE.val (.bool (!(x4 == 0))) W (by kernel_rfl) (hK _ W (hB.step (by decide) (Gr.refl W)) rfl (fun _ _ h => h)))
      · intro L ys W hC hn hB hF hP K hK
        show OpE _ _ _ W K
        exact OpE.val (.slice (some ⟨g_12, 0, none⟩) 12 c_13) W (by kernel_rfl) (hK _ W (hB.step (by decide) (Gr.refl W)) rfl (fun _ _ h => h))
      · intro L ys W hC hn hB hF hP K hK
        show OpE _ _ _ W K
        exact OpE.known (j := 4) (v := .slice (some ⟨g_12, 0, none⟩) 12 c_13) (hF 4 (hP.1 rfl)) (OpE.val (.pointer (some ⟨g_12, 5, none⟩)) W (by kernel_rfl) (hK _ W (hB.step (by decide) (Gr.refl W)) rfl (fun _ _ h => h)))
      · intro L ys W hC hn hB hF hP K hK
        show OpE _ _ _ W K
        exact OpE.known (j := 5) (v := .pointer (some ⟨g_12, 5, none⟩)) (hF 5 (hP.1 rfl)) (OpE.load (g := g_12) (off := 5) (v := .int .i64 x5) rfl (by kernel_rfl) ((show SH [] w W [pt g_12 ⟨[.int .i64 x0, .int .i64 x1, .int .i64 x2, .int .i64 x3, .int .i64 x4, .int .i64 x5, .int .i64 x6, .int .i64 x7, .int .i64 x8, .int .i64 x9, .int .i64 x10, .int .i64 x11] ++ pad_14⟩ 3, pt g_1 (cvA c.clean) 46, pt g_4 czA 46, pt g_18 (nmA c.clean.clean) 3] from hfr_41 W [] [] hB.upd rfl (by simp)).pt_at (i := 0) rfl) (by kernel_rfl) (hK _ W (hB.step (by decide) (Gr.refl W)) rfl (fun _ _ h => h)))
      · intro L ys W hC hn hB hF hP K hK
        show OpE _ _ _ W K
        exact OpE.val (.slice (some ⟨g_12, 0, none⟩) 12 c_13) W (by kernel_rfl) (hK _ W (hB.step (by decide) (Gr.refl W)) rfl (fun _ _ h => h))
      · intro L ys W hC hn hB hF hP K hK
        show OpE _ _ _ W K
        exact OpE.known (j := 7) (v := .slice (some ⟨g_12, 0, none⟩) 12 c_13) (hF 7 (hP.1 rfl)) (OpE.val (.pointer (some ⟨g_12, 6, none⟩)) W (by kernel_rfl) (hK _ W (hB.step (by decide) (Gr.refl W)) rfl (fun _ _ h => h)))
      · intro L ys W hC hn hB hF hP K hK
        show OpE _ _ _ W K
        exact OpE.known (j := 8) (v := .pointer (some ⟨g_12, 6, none⟩)) (hF 8 (hP.1 rfl)) (OpE.load (g := g_12) (off := 6) (v := .int .i64 x6) rfl (by kernel_rfl) ((show SH [] w W [pt g_12 ⟨[.int .i64 x0, .int .i64 x1, .int .i64 x2, .int .i64 x3, .int .i64 x4, .int .i64 x5, .int .i64 x6, .int .i64 x7, .int .i64 x8, .int .i64 x9, .int .i64 x10, .int .i64 x11] ++ pad_14⟩ 3, pt g_1 (cvA c.clean) 46, pt g_4 czA 46, pt g_18 (nmA c.clean.clean) 3] from hfr_41 W [] [] hB.upd rfl (by simp)).pt_at (i := 0) rfl) (by kernel_rfl) (hK _ W (hB.step (by decide) (Gr.refl W)) rfl (fun _ _ h => h)))
      · intro L ys W hC hn hB hF hP K hK
        show OpE _ _ _ W K
        exact OpE.known (j := 9) (v := .int .i64 x6) (hF 9 (hP.1 rfl)) (OpE.val (.bool (!(x6 == 0))) W (by kernel_rfl) (hK _ W (hB.step (by decide) (Gr.refl W)) rfl (fun _ _ h => h)))
      · intro L ys W hC hn hB hF hP K hK
        show OpE _ _ _ W K
        exact OpE.val (.pointer (some ⟨g_24, 24, none⟩)) W (by kernel_rfl) (hK _ W (hB.step (by decide) (Gr.refl W)) rfl (fun _ _ h => h))
      · intro L ys W hC hn hB hF hP K hK
        show OpE _ _ _ W K
        have hst := hB.at_ (k := 0) (P := [pt g_24 #[.int .i64 c.clean.row, .int .i64 c.clean.col, .int .u8 c.clean.rend, .bool c.clean.kept, .bool c.clean.wrap, .bool c.clean.origin, .int .i64 c.clean.g0, .int .i64 c.clean.g1, .int .i64 c.clean.g2, .int .i64 c.clean.g3, .int .i64 c.clean.gl, .int .i64 c.clean.gr, .int .i64 c.clean.sg, .int .i64 c.clean.pt, .int .i64 c.clean.pl, .int .i64 c.clean.pb, .int .i64 c.clean.pr, .int .i64 c.clean.mt, .int .i64 c.clean.ml, .int .i64 c.clean.mb, .int .i64 c.clean.mr, .int .u32 ((x2 * 4096) + x3), .int .i64 x0, .bool (!(x1 == 0)), .bool c.clean.stream, .int .i64 c.clean.status, .bool c.clean.below, .int .i64 c.clean.page, .int .i64 c.clean.pages] 46]) rfl (by decide) rfl prev_0 (next_at 12 rfl hn)
        obtain ⟨hq_, hu_⟩ := hst.setCells (i := 0) (g := g_24) (C := #[.int .i64 c.clean.row, .int .i64 c.clean.col, .int .u8 c.clean.rend, .bool c.clean.kept, .bool c.clean.wrap, .bool c.clean.origin, .int .i64 c.clean.g0, .int .i64 c.clean.g1, .int .i64 c.clean.g2, .int .i64 c.clean.g3, .int .i64 c.clean.gl, .int .i64 c.clean.gr, .int .i64 c.clean.sg, .int .i64 c.clean.pt, .int .i64 c.clean.pl, .int .i64 c.clean.pb, .int .i64 c.clean.pr, .int .i64 c.clean.mt, .int .i64 c.clean.ml, .int .i64 c.clean.mb, .int .i64 c.clean.mr, .int .u32 ((x2 * 4096) + x3), .int .i64 x0, .bool (!(x1 == 0)), .bool c.clean.stream, .int .i64 c.clean.status, .bool c.clean.below, .int .i64 c.clean.page, .int .i64 c.clean.pages]) (T := 46) rfl 24 ((.bool (!(x4 == 0)) : Value).cells.toList)
        exact OpE.known (j := 11) (v := .pointer (some ⟨g_24, 24, none⟩)) (hF 11 (hP.1 rfl)) (OpE.known (j := 3) (v := .bool (!(x4 == 0))) (hF 3 (hP.2.2.2.2.2.1 rfl)) (OpE.store (g := g_24) (off := 24) (C := #[.int .i64 c.clean.row, .int .i64 c.clean.col, .int .u8 c.clean.rend, .bool c.clean.kept, .bool c.clean.wrap, .bool c.clean.origin, .int .i64 c.clean.g0, .int .i64 c.clean.g1, .int .i64 c.clean.g2, .int .i64 c.clean.g3, .int .i64 c.clean.gl, .int .i64 c.clean.gr, .int .i64 c.clean.sg, .int .i64 c.clean.pt, .int .i64 c.clean.pl, .int .i64 c.clean.pb, .int .i64 c.clean.pr, .int .i64 c.clean.mt, .int .i64 c.clean.ml, .int .i64 c.clean.mb, .int .i64 c.clean.mr, .int .u32 ((x2 * 4096) + x3), .int .i64 x0, .bool (!(x1 == 0)), .bool c.clean.stream, .int .i64 c.clean.status, .bool c.clean.below, .int .i64 c.clean.page, .int .i64 c.clean.pages]) (T := 46) (v := .bool (!(x4 == 0))) rfl (by kernel_rfl) (by kernel_rfl) (hst.pt_at (i := 0) rfl) (by kernel_rfl) (by kernel_rfl) (by kernel_rfl) (hK _ _ (hB.done (k := 0) (P := [pt g_24 #[.int .i64 c.clean.row, .int .i64 c.clean.col, .int .u8 c.clean.rend, .bool c.clean.kept, .bool c.clean.wrap, .bool c.clean.origin, .int .i64 c.clean.g0, .int .i64 c.clean.g1, .int .i64 c.clean.g2, .int .i64 c.clean.g3, .int .i64 c.clean.gl, .int .i64 c.clean.gr, .int .i64 c.clean.sg, .int .i64 c.clean.pt, .int .i64 c.clean.pl, .int .i64 c.clean.pb, .int .i64 c.clean.pr, .int .i64 c.clean.mt, .int .i64 c.clean.ml, .int .i64 c.clean.mb, .int .i64 c.clean.mr, .int .u32 ((x2 * 4096) + x3), .int .i64 x0, .bool (!(x1 == 0)), .bool c.clean.stream, .int .i64 c.clean.status, .bool c.clean.below, .int .i64 c.clean.page, .int .i64 c.clean.pages] 46]) (P' := [pt g_24 #[.int .i64 c.clean.row, .int .i64 c.clean.col, .int .u8 c.clean.rend, .bool c.clean.kept, .bool c.clean.wrap, .bool c.clean.origin, .int .i64 c.clean.g0, .int .i64 c.clean.g1, .int .i64 c.clean.g2, .int .i64 c.clean.g3, .int .i64 c.clean.gl, .int .i64 c.clean.gr, .int .i64 c.clean.sg, .int .i64 c.clean.pt, .int .i64 c.clean.pl, .int .i64 c.clean.pb, .int .i64 c.clean.pr, .int .i64 c.clean.mt, .int .i64 c.clean.ml, .int .i64 c.clean.mb, .int .i64 c.clean.mr, .int .u32 ((x2 * 4096) + x3), .int .i64 x0, .bool (!(x1 == 0)), .bool (!(x4 == 0)), .int .i64 c.clean.status, .bool c.clean.below, .int .i64 c.clean.page, .int .i64 c.clean.pages] 46]) rfl (by decide) rfl rfl rfl prev_0 hn hu_ hq_) trivial (fun _ _ h => FW.pureL HPU h))))
      · intro L ys W hC hn hB hF hP K hK
        show OpE _ _ _ W K
        exact OpE.val (.pointer (some ⟨g_24, 25, none⟩)) W (by kernel_rfl) (hK _ W (hB.step (by decide) (Gr.refl W)) rfl (fun _ _ h => h))
      · intro L ys W hC hn hB hF hP K hK
        show OpE _ _ _ W K
        have hst := hB.at_ (k := 1) (P := [pt g_24 #[.int .i64 c.clean.row, .int .i64 c.clean.col, .int .u8 c.clean.rend, .bool c.clean.kept, .bool c.clean.wrap, .bool c.clean.origin, .int .i64 c.clean.g0, .int .i64 c.clean.g1, .int .i64 c.clean.g2, .int .i64 c.clean.g3, .int .i64 c.clean.gl, .int .i64 c.clean.gr, .int .i64 c.clean.sg, .int .i64 c.clean.pt, .int .i64 c.clean.pl, .int .i64 c.clean.pb, .int .i64 c.clean.pr, .int .i64 c.clean.mt, .int .i64 c.clean.ml, .int .i64 c.clean.mb, .int .i64 c.clean.mr, .int .u32 ((x2 * 4096) + x3), .int .i64 x0, .bool (!(x1 == 0)), .bool (!(x4 == 0)), .int .i64 c.clean.status, .bool c.clean.below, .int .i64 c.clean.page, .int .i64 c.clean.pages] 46]) rfl (by decide) rfl (prev_at (k := 0) 12 rfl (hP.2.2.2.2.2.2.2.2.2.2.2.2.2.2.2.1 rfl)) (next_at 14 rfl hn)
        obtain ⟨hq_, hu_⟩ := hst.setCells (i := 0) (g := g_24) (C := #[.int .i64 c.clean.row, .int .i64 c.clean.col, .int .u8 c.clean.rend, .bool c.clean.kept, .bool c.clean.wrap, .bool c.clean.origin, .int .i64 c.clean.g0, .int .i64 c.clean.g1, .int .i64 c.clean.g2, .int .i64 c.clean.g3, .int .i64 c.clean.gl, .int .i64 c.clean.gr, .int .i64 c.clean.sg, .int .i64 c.clean.pt, .int .i64 c.clean.pl, .int .i64 c.clean.pb, .int .i64 c.clean.pr, .int .i64 c.clean.mt, .int .i64 c.clean.ml, .int .i64 c.clean.mb, .int .i64 c.clean.mr, .int .u32 ((x2 * 4096) + x3), .int .i64 x0, .bool (!(x1 == 0)), .bool (!(x4 == 0)), .int .i64 c.clean.status, .bool c.clean.below, .int .i64 c.clean.page, .int .i64 c.clean.pages]) (T := 46) rfl 25 ((.int .i64 x5 : Value).cells.toList)
        exact OpE.known (j := 13) (v := .pointer (some ⟨g_24, 25, none⟩)) (hF 13 (hP.1 rfl)) (OpE.known (j := 6) (v := .int .i64 x5) (hF 6 (hP.2.2.2.2.2.2.2.2.2.1 rfl)) (OpE.store (g := g_24) (off := 25) (C := #[.int .i64 c.clean.row, .int .i64 c.clean.col, .int .u8 c.clean.rend, .bool c.clean.kept, .bool c.clean.wrap, .bool c.clean.origin, .int .i64 c.clean.g0, .int .i64 c.clean.g1, .int .i64 c.clean.g2, .int .i64 c.clean.g3, .int .i64 c.clean.gl, .int .i64 c.clean.gr, .int .i64 c.clean.sg, .int .i64 c.clean.pt, .int .i64 c.clean.pl, .int .i64 c.clean.pb, .int .i64 c.clean.pr, .int .i64 c.clean.mt, .int .i64 c.clean.ml, .int .i64 c.clean.mb, .int .i64 c.clean.mr, .int .u32 ((x2 * 4096) + x3), .int .i64 x0, .bool (!(x1 == 0)), .bool (!(x4 == 0)), .int .i64 c.clean.status, .bool c.clean.below, .int .i64 c.clean.page, .int .i64 c.clean.pages]) (T := 46) (v := .int .i64 x5) rfl (by kernel_rfl) (by kernel_rfl) (hst.pt_at (i := 0) rfl) (by kernel_rfl) (by kernel_rfl) (by kernel_rfl) (hK _ _ (hB.done (k := 1) (P := [pt g_24 #[.int .i64 c.clean.row, .int .i64 c.clean.col, .int .u8 c.clean.rend, .bool c.clean.kept, .bool c.clean.wrap, .bool c.clean.origin, .int .i64 c.clean.g0, .int .i64 c.clean.g1, .int .i64 c.clean.g2, .int .i64 c.clean.g3, .int .i64 c.clean.gl, .int .i64 c.clean.gr, .int .i64 c.clean.sg, .int .i64 c.clean.pt, .int .i64 c.clean.pl, .int .i64 c.clean.pb, .int .i64 c.clean.pr, .int .i64 c.clean.mt, .int .i64 c.clean.ml, .int .i64 c.clean.mb, .int .i64 c.clean.mr, .int .u32 ((x2 * 4096) + x3), .int .i64 x0, .bool (!(x1 == 0)), .bool (!(x4 == 0)), .int .i64 c.clean.status, .bool c.clean.below, .int .i64 c.clean.page, .int .i64 c.clean.pages] 46]) (P' := [pt g_24 #[.int .i64 c.clean.row, .int .i64 c.clean.col, .int .u8 c.clean.rend, .bool c.clean.kept, .bool c.clean.wrap, .bool c.clean.origin, .int .i64 c.clean.g0, .int .i64 c.clean.g1, .int .i64 c.clean.g2, .int .i64 c.clean.g3, .int .i64 c.clean.gl, .int .i64 c.clean.gr, .int .i64 c.clean.sg, .int .i64 c.clean.pt, .int .i64 c.clean.pl, .int .i64 c.clean.pb, .int .i64 c.clean.pr, .int .i64 c.clean.mt, .int .i64 c.clean.ml, .int .i64 c.clean.mb, .int .i64 c.clean.mr, .int .u32 ((x2 * 4096) + x3), .int .i64 x0, .bool (!(x1 == 0)), .bool (!(x4 == 0)), .int .i64 x5, .bool c.clean.below, .int .i64 c.clean.page, .int .i64 c.clean.pages] 46]) rfl (by decide) rfl rfl rfl (prev_at (k := 0) 12 rfl (hP.2.2.2.2.2.2.2.2.2.2.2.2.2.2.2.1 rfl)) hn hu_ hq_) trivial (fun _ _ h => FW.pureL HPU h))))
    · intro ys_46 w_42 hb_43 hF_45
      have hst_ := hb_43.at_ (k := 2) (P := [pt g_24 #[.int .i64 c.clean.row, .int .i64 c.clean.col, .int .u8 c.clean.rend, .bool c.clean.kept, .bool c.clean.wrap, .bool c.clean.origin, .int .i64 c.clean.g0, .int .i64 c.clean.g1, .int .i64 c.clean.g2, .int .i64 c.clean.g3, .int .i64 c.clean.gl, .int .i64 c.clean.gr, .int .i64 c.clean.sg, .int .i64 c.clean.pt, .int .i64 c.clean.pl, .int .i64 c.clean.pb, .int .i64 c.clean.pr, .int .i64 c.clean.mt, .int .i64 c.clean.ml, .int .i64 c.clean.mb, .int .i64 c.clean.mr, .int .u32 ((x2 * 4096) + x3), .int .i64 x0, .bool (!(x1 == 0)), .bool (!(x4 == 0)), .int .i64 x5, .bool c.clean.below, .int .i64 c.clean.page, .int .i64 c.clean.pages] 46]) rfl (by decide) rfl (prev_at (k := 1) 14 rfl (by decide)) (next_end rfl)
      have hs_44 : SH [] w w_42 [pt g_24 #[.int .i64 c.clean.row, .int .i64 c.clean.col, .int .u8 c.clean.rend, .bool c.clean.kept, .bool c.clean.wrap, .bool c.clean.origin, .int .i64 c.clean.g0, .int .i64 c.clean.g1, .int .i64 c.clean.g2, .int .i64 c.clean.g3, .int .i64 c.clean.gl, .int .i64 c.clean.gr, .int .i64 c.clean.sg, .int .i64 c.clean.pt, .int .i64 c.clean.pl, .int .i64 c.clean.pb, .int .i64 c.clean.pr, .int .i64 c.clean.mt, .int .i64 c.clean.ml, .int .i64 c.clean.mb, .int .i64 c.clean.mr, .int .u32 ((x2 * 4096) + x3), .int .i64 x0, .bool (!(x1 == 0)), .bool (!(x4 == 0)), .int .i64 x5, .bool c.clean.below, .int .i64 c.clean.page, .int .i64 c.clean.pages] 46, pt g_12 ⟨[.int .i64 x0, .int .i64 x1, .int .i64 x2, .int .i64 x3, .int .i64 x4, .int .i64 x5, .int .i64 x6, .int .i64 x7, .int .i64 x8, .int .i64 x9, .int .i64 x10, .int .i64 x11] ++ pad_14⟩ 3, pt g_1 (cvA c.clean) 46, pt g_4 czA 46, pt g_18 (nmA c.clean.clean) 3] := hfr_41 w_42 _ fj_39 hb_43.upd hst_ (fun g hg => .inl hg)
      refine SL.knownY (j := 10) (v := .bool (!(x6 == 0))) (show ys_46 10 = .bool (!(x6 == 0)) from hF_45 10 (by decide)) (?_)
      clear hF_45 HGR HPU hst_ hb_43 hfr_41 hpj_40
      refine SL.v (.pointer (some ⟨g_24, 26, none⟩)) ?_
      refine SL.storeH (i := 0) (g := g_24) (off := 26) (v := .bool (!(x6 == 0))) (L' := [pt g_24 #[.int .i64 c.clean.row, .int .i64 c.clean.col, .int .u8 c.clean.rend, .bool c.clean.kept, .bool c.clean.wrap, .bool c.clean.origin, .int .i64 c.clean.g0, .int .i64 c.clean.g1, .int .i64 c.clean.g2, .int .i64 c.clean.g3, .int .i64 c.clean.gl, .int .i64 c.clean.gr, .int .i64 c.clean.sg, .int .i64 c.clean.pt, .int .i64 c.clean.pl, .int .i64 c.clean.pb, .int .i64 c.clean.pr, .int .i64 c.clean.mt, .int .i64 c.clean.ml, .int .i64 c.clean.mb, .int .i64 c.clean.mr, .int .u32 ((x2 * 4096) + x3), .int .i64 x0, .bool (!(x1 == 0)), .bool (!(x4 == 0)), .int .i64 x5, .bool (!(x6 == 0)), .int .i64 c.clean.page, .int .i64 c.clean.pages] 46, pt g_12 ⟨[.int .i64 x0, .int .i64 x1, .int .i64 x2, .int .i64 x3, .int .i64 x4, .int .i64 x5, .int .i64 x6, .int .i64 x7, .int .i64 x8, .int .i64 x9, .int .i64 x10, .int .i64 x11] ++ pad_14⟩ 3, pt g_1 (cvA c.clean) 46, pt g_4 czA 46, pt g_18 (nmA c.clean.clean) 3]) hs_44 rfl rfl rfl (by kernel_rfl) (by kernel_rfl) rfl (by kernel_rfl) (by kernel_rfl) rfl (by kernel_rfl) rfl (fun w_47 hs_48 => ?_)
      refine SL.nil ?_
      refine CW.seq ?_
      have HGR : GrL [fun v _ => v = .slice (some ⟨g_12, 0, none⟩) 12 c_13, fun v _ => v = .pointer (some ⟨g_12, 7, none⟩), fun v _ => v = .int .i64 x7, fun v _ => v = .slice (some ⟨g_12, 0, none⟩) 12 c_13, fun v _ => v = .pointer (some ⟨g_12, 8, none⟩), fun v _ => v = .int .i64 x8, fun v _ => v = .slice (some ⟨g_12, 0, none⟩) 12 c_13, fun v _ => v = .pointer (some ⟨g_12, 9, none⟩), fun v _ => v = .int .i64 x9, fun v _ => v = .slice (some ⟨g_12, 0, none⟩) 12 c_13, fun v _ => v = .pointer (some ⟨g_12, 10, none⟩), fun v _ => v = .int .i64 x10] := ⟨fun _ _ _ _ h => h, ⟨fun _ _ _ _ h => h, ⟨fun _ _ _ _ h => h, ⟨fun _ _ _ _ h => h, ⟨fun _ _ _ _ h => h, ⟨fun _ _ _ _ h => h, ⟨fun _ _ _ _ h => h, ⟨fun _ _ _ _ h => h, ⟨fun _ _ _ _ h => h, ⟨fun _ _ _ _ h => h, ⟨fun _ _ _ _ h => h, ⟨fun _ _ _ _ h => h, trivial⟩⟩⟩⟩⟩⟩⟩⟩⟩⟩⟩⟩
      refine CW.draw 12 (FW [fun v _ => v = .slice (some ⟨g_12, 0, none⟩) 12 c_13, fun v _ => v = .pointer (some ⟨g_12, 7, none⟩), fun v _ => v = .int .i64 x7, fun v _ => v = .slice (some ⟨g_12, 0, none⟩) 12 c_13, fun v _ => v = .pointer (some ⟨g_12, 8, none⟩), fun v _ => v = .int .i64 x8, fun v _ => v = .slice (some ⟨g_12, 0, none⟩) 12 c_13, fun v _ => v = .pointer (some ⟨g_12, 9, none⟩), fun v _ => v = .int .i64 x9, fun v _ => v = .slice (some ⟨g_12, 0, none⟩) 12 c_13, fun v _ => v = .pointer (some ⟨g_12, 10, none⟩), fun v _ => v = .int .i64 x10]) (fun W => Gr w_47 W) (by kernel_rfl) (by kernel_rfl) (by kernel_rfl) (by kernel_rfl) (by kernel_rfl) (Gr.refl _).drew ?_ ?_
      · refine ⟨?_, ⟨?_, ⟨?_, ⟨?_, ⟨?_, ⟨?_, ⟨?_, ⟨?_, ⟨?_, ⟨?_, ⟨?_, ⟨?_, trivial⟩⟩⟩⟩⟩⟩⟩⟩⟩⟩⟩⟩
        · intro L ys W hB hF hP K hK
          show OpE _ _ _ W K
          exact OpE.val (.slice (some ⟨g_12, 0, none⟩) 12 c_13) W (by kernel_rfl) (hK _ W hB rfl (fun _ _ h => h))
        · intro L ys W hB hF hP K hK
          show OpE _ _ _ W K
          exact OpE.known (j := 0) (v := .slice (some ⟨g_12, 0, none⟩) 12 c_13) (hF 0 (hP.1 rfl)) (OpE.val (.pointer (some ⟨g_12, 7, none⟩)) W (by kernel_rfl) (hK _ W hB rfl (fun _ _ h => h)))
        · intro L ys W hB hF hP K hK
          show OpE _ _ _ W K
          exact OpE.known (j := 1) (v := .pointer (some ⟨g_12, 7, none⟩)) (hF 1 (hP.1 rfl)) (OpE.load (g := g_12) (off := 7) (v := .int .i64 x7) rfl (by kernel_rfl) ((hs_48.grow hB).pt_at (i := 1) rfl) (by kernel_rfl) (hK _ W hB rfl (fun _ _ h => h)))
        · intro L ys W hB hF hP K hK
          show OpE _ _ _ W K
          exact OpE.val (.slice (some ⟨g_12, 0, none⟩) 12 c_13) W (by kernel_rfl) (hK _ W hB rfl (fun _ _ h => h))
        · intro L ys W hB hF hP K hK
          show OpE _ _ _ W K
          exact OpE.known (j := 3) (v := .slice (some ⟨g_12, 0, none⟩) 12 c_13) (hF 3 (hP.1 rfl)) (OpE.val (.pointer (some ⟨g_12, 8, none⟩)) W (by kernel_rfl) (hK _ W hB rfl (fun _ _ h => h)))
        · intro L ys W hB hF hP K hK
          show OpE _ _ _ W K
          exact OpE.known (j := 4) (v := .pointer (some ⟨g_12, 8, none⟩)) (hF 4 (hP.1 rfl)) (OpE.load (g := g_12) (off := 8) (v := .int .i64 x8) rfl (by kernel_rfl) ((hs_48.grow hB).pt_at (i := 1) rfl) (by kernel_rfl) (hK _ W hB rfl (fun _ _ h => h)))
        · intro L ys W hB hF hP K hK
          show OpE _ _ _ W K
          exact OpE.val (.slice (some ⟨g_12, 0, none⟩) 12 c_13) W (by kernel_rfl) (hK _ W hB rfl (fun _ _ h => h))
        · intro L ys W hB hF hP K hK
          show OpE _ _ _ W K
          exact OpE.known (j := 6) (v := .slice (some ⟨g_12, 0, none⟩) 12 c_13) (hF 6 (hP.1 rfl)) (OpE.val (.pointer (some ⟨g_12, 9, none⟩)) W (by kernel_rfl) (hK _ W hB rfl (fun _ _ h => h)))
        · intro L ys W hB hF hP K hK
          show OpE _ _ _ W K
          exact OpE.known (j := 7) (v := .pointer (some ⟨g_12, 9, none⟩)) (hF 7 (hP.1 rfl)) (OpE.load (g := g_12) (off := 9) (v := .int .i64 x9) rfl (by kernel_rfl) ((hs_48.grow hB).pt_at (i := 1) rfl) (by kernel_rfl) (hK _ W hB rfl (fun _ _ h => h)))
        · intro L ys W hB hF hP K hK
          show OpE _ _ _ W K
          exact OpE.val (.slice (some ⟨g_12, 0, none⟩) 12 c_13) W (by kernel_rfl) (hK _ W hB rfl (fun _ _ h => h))
        · intro L ys W hB hF hP K hK
          show OpE _ _ _ W K
          exact OpE.known (j := 9) (v := .slice (some ⟨g_12, 0, none⟩) 12 c_13) (hF 9 (hP.1 rfl)) (OpE.val (.pointer (some ⟨g_12, 10, none⟩)) W (by kernel_rfl) (hK _ W hB rfl (fun _ _ h => h)))
        · intro L ys W hB hF hP K hK
          show OpE _ _ _ W K
          exact OpE.known (j := 10) (v := .pointer (some ⟨g_12, 10, none⟩)) (hF 10 (hP.1 rfl)) (OpE.load (g := g_12) (off := 10) (v := .int .i64 x10) rfl (by kernel_rfl) ((hs_48.grow hB).pt_at (i := 1) rfl) (by kernel_rfl) (hK _ W hB rfl (fun _ _ h => h)))
      · intro ys_52 w_49 hs_50 hF_51
        have hg_53 := hs_50
        have hs_50 : SH [] w w_49 [pt g_24 #[.int .i64 c.clean.row, .int .i64 c.clean.col, .int .u8 c.clean.rend, .bool c.clean.kept, .bool c.clean.wrap, .bool c.clean.origin, .int .i64 c.clean.g0, .int .i64 c.clean.g1, .int .i64 c.clean.g2, .int .i64 c.clean.g3, .int .i64 c.clean.gl, .int .i64 c.clean.gr, .int .i64 c.clean.sg, .int .i64 c.clean.pt, .int .i64 c.clean.pl, .int .i64 c.clean.pb, .int .i64 c.clean.pr, .int .i64 c.clean.mt, .int .i64 c.clean.ml, .int .i64 c.clean.mb, .int .i64 c.clean.mr, .int .u32 ((x2 * 4096) + x3), .int .i64 x0, .bool (!(x1 == 0)), .bool (!(x4 == 0)), .int .i64 x5, .bool (!(x6 == 0)), .int .i64 c.clean.page, .int .i64 c.clean.pages] 46, pt g_12 ⟨[.int .i64 x0, .int .i64 x1, .int .i64 x2, .int .i64 x3, .int .i64 x4, .int .i64 x5, .int .i64 x6, .int .i64 x7, .int .i64 x8, .int .i64 x9, .int .i64 x10, .int .i64 x11] ++ pad_14⟩ 3, pt g_1 (cvA c.clean) 46, pt g_4 czA 46, pt g_18 (nmA c.clean.clean) 3] := hs_48.grow hg_53
        refine SL.knownY (j := 2) (v := .int .i64 x7) (show ys_52 2 = .int .i64 x7 from hF_51 2 (by decide)) (SL.knownY (j := 5) (v := .int .i64 x8) (show ys_52 5 = .int .i64 x8 from hF_51 5 (by decide)) (SL.knownY (j := 8) (v := .int .i64 x9) (show ys_52 8 = .int .i64 x9 from hF_51 8 (by decide)) (SL.knownY (j := 11) (v := .int .i64 x10) (show ys_52 11 = .int .i64 x10 from hF_51 11 (by decide)) (?_))))
        clear hF_51 HGR
        refine SL.v (.agg #[.int .i64 x7, .int .i64 x8, .int .i64 x9, .int .i64 x10]) ?_
        refine SL.v (.pointer (some ⟨g_24, 13, none⟩)) ?_
        refine SL.v (.pointer (some ⟨g_24, 17, none⟩)) ?_
        refine SL.storeH (i := 0) (g := g_24) (off := 17) (v := .agg #[.int .i64 x7, .int .i64 x8, .int .i64 x9, .int .i64 x10]) (L' := [pt g_24 #[.int .i64 c.clean.row, .int .i64 c.clean.col, .int .u8 c.clean.rend, .bool c.clean.kept, .bool c.clean.wrap, .bool c.clean.origin, .int .i64 c.clean.g0, .int .i64 c.clean.g1, .int .i64 c.clean.g2, .int .i64 c.clean.g3, .int .i64 c.clean.gl, .int .i64 c.clean.gr, .int .i64 c.clean.sg, .int .i64 c.clean.pt, .int .i64 c.clean.pl, .int .i64 c.clean.pb, .int .i64 c.clean.pr, .int .i64 x7, .int .i64 x8, .int .i64 x9, .int .i64 x10, .int .u32 ((x2 * 4096) + x3), .int .i64 x0, .bool (!(x1 == 0)), .bool (!(x4 == 0)), .int .i64 x5, .bool (!(x6 == 0)), .int .i64 c.clean.page, .int .i64 c.clean.pages] 46, pt g_12 ⟨[.int .i64 x0, .int .i64 x1, .int .i64 x2, .int .i64 x3, .int .i64 x4, .int .i64 x5, .int .i64 x6, .int .i64 x7, .int .i64 x8, .int .i64 x9, .int .i64 x10, .int .i64 x11] ++ pad_14⟩ 3, pt g_1 (cvA c.clean) 46, pt g_4 czA 46, pt g_18 (nmA c.clean.clean) 3]) hs_50 rfl rfl rfl (by kernel_rfl) (by kernel_rfl) rfl (by kernel_rfl) (by kernel_rfl) rfl (by kernel_rfl) rfl (fun w_54 hs_55 => ?_)
        refine SL.nil ?_
        refine CW.seq ?_
        refine CW.region ?_
        refine SL.v (.slice (some ⟨g_12, 0, none⟩) 12 c_13) ?_
        refine SL.v (.pointer (some ⟨g_12, 11, none⟩)) ?_
        refine SL.load (g := g_12) (off := 11) (v := .int .i64 x11) rfl rfl rfl (by kernel_rfl) (hs_55.pt_at (i := 1) rfl) (by kernel_rfl) ?_
        refine SL.v (.bool (!(x11 == 0))) ?_
        refine SL.v (.pointer (some ⟨g_24, 0, none⟩)) ?_
        refine SL.v (.pointer (some ⟨g_24, 5, none⟩)) ?_
        refine SL.storeH (i := 0) (g := g_24) (off := 5) (v := .bool (!(x11 == 0))) (L' := [pt g_24 #[.int .i64 c.clean.row, .int .i64 c.clean.col, .int .u8 c.clean.rend, .bool c.clean.kept, .bool c.clean.wrap, .bool (!(x11 == 0)), .int .i64 c.clean.g0, .int .i64 c.clean.g1, .int .i64 c.clean.g2, .int .i64 c.clean.g3, .int .i64 c.clean.gl, .int .i64 c.clean.gr, .int .i64 c.clean.sg, .int .i64 c.clean.pt, .int .i64 c.clean.pl, .int .i64 c.clean.pb, .int .i64 c.clean.pr, .int .i64 x7, .int .i64 x8, .int .i64 x9, .int .i64 x10, .int .u32 ((x2 * 4096) + x3), .int .i64 x0, .bool (!(x1 == 0)), .bool (!(x4 == 0)), .int .i64 x5, .bool (!(x6 == 0)), .int .i64 c.clean.page, .int .i64 c.clean.pages] 46, pt g_12 ⟨[.int .i64 x0, .int .i64 x1, .int .i64 x2, .int .i64 x3, .int .i64 x4, .int .i64 x5, .int .i64 x6, .int .i64 x7, .int .i64 x8, .int .i64 x9, .int .i64 x10, .int .i64 x11] ++ pad_14⟩ 3, pt g_1 (cvA c.clean) 46, pt g_4 czA 46, pt g_18 (nmA c.clean.clean) 3]) hs_55 rfl rfl rfl (by kernel_rfl) (by kernel_rfl) rfl (by kernel_rfl) (by kernel_rfl) rfl (by kernel_rfl) rfl (fun w_56 hs_57 => ?_)
        refine SL.nil ?_
        refine CW.seq ?_
        refine CW.region ?_
        refine SL.load (g := g_24) (off := 0) (v := .agg #[.int .i64 c.clean.row, .int .i64 c.clean.col, .int .u8 c.clean.rend, .bool c.clean.kept, .bool c.clean.wrap, .bool (!(x11 == 0)), .int .i64 c.clean.g0, .int .i64 c.clean.g1, .int .i64 c.clean.g2, .int .i64 c.clean.g3, .int .i64 c.clean.gl, .int .i64 c.clean.gr, .int .i64 c.clean.sg, .int .i64 c.clean.pt, .int .i64 c.clean.pl, .int .i64 c.clean.pb, .int .i64 c.clean.pr, .int .i64 x7, .int .i64 x8, .int .i64 x9, .int .i64 x10, .int .u32 ((x2 * 4096) + x3), .int .i64 x0, .bool (!(x1 == 0)), .bool (!(x4 == 0)), .int .i64 x5, .bool (!(x6 == 0)), .int .i64 c.clean.page, .int .i64 c.clean.pages]) rfl rfl rfl (by kernel_rfl) (hs_57.pt_at (i := 0) rfl) (by kernel_rfl) ?_
        refine SL.call (f := 10) (args := #[.agg #[.int .i64 c.clean.row, .int .i64 c.clean.col, .int .u8 c.clean.rend, .bool c.clean.kept, .bool c.clean.wrap, .bool (!(x11 == 0)), .int .i64 c.clean.g0, .int .i64 c.clean.g1, .int .i64 c.clean.g2, .int .i64 c.clean.g3, .int .i64 c.clean.gl, .int .i64 c.clean.gr, .int .i64 c.clean.sg, .int .i64 c.clean.pt, .int .i64 c.clean.pl, .int .i64 c.clean.pb, .int .i64 c.clean.pr, .int .i64 x7, .int .i64 x8, .int .i64 x9, .int .i64 x10, .int .u32 ((x2 * 4096) + x3), .int .i64 x0, .bool (!(x1 == 0)), .bool (!(x4 == 0)), .int .i64 x5, .bool (!(x6 == 0)), .int .i64 c.clean.page, .int .i64 c.clean.pages]]) (w1 := w_56) rfl rfl (by kernel_rfl) (clean_any (rcor c x0 x1 x2 x3 x4 x5 x6 x7 x8 x9 x10 x11) w_56 hrk) ?_
        rintro x w_58 ⟨rfl, hc_59⟩
        refine ⟨.agg (cvA ((rcor c x0 x1 x2 x3 x4 x5 x6 x7 x8 x9 x10 x11).clean)), rfl, ?_⟩
        have hs_60 := hs_57.grow hc_59
        refine SL.storeH (i := 0) (g := g_24) (off := 0) (v := .agg (cvA ((rcor c x0 x1 x2 x3 x4 x5 x6 x7 x8 x9 x10 x11).clean))) (L' := [pt g_24 (cvA ((rcor c x0 x1 x2 x3 x4 x5 x6 x7 x8 x9 x10 x11).clean)) 46, pt g_12 ⟨[.int .i64 x0, .int .i64 x1, .int .i64 x2, .int .i64 x3, .int .i64 x4, .int .i64 x5, .int .i64 x6, .int .i64 x7, .int .i64 x8, .int .i64 x9, .int .i64 x10, .int .i64 x11] ++ pad_14⟩ 3, pt g_1 (cvA c.clean) 46, pt g_4 czA 46, pt g_18 (nmA c.clean.clean) 3]) hs_60 rfl rfl rfl (by kernel_rfl) (by kernel_rfl) rfl (by kernel_rfl) (by kernel_rfl) rfl (by kernel_rfl) rfl (fun w_61 hs_62 => ?_)
        refine SL.nil ?_
        refine CW.seq ?_
        refine CW.seq ?_
        refine CW.region ?_
        refine SL.load (g := g_24) (off := 0) (v := .agg (cvA ((rcor c x0 x1 x2 x3 x4 x5 x6 x7 x8 x9 x10 x11).clean))) rfl rfl rfl (by kernel_rfl) (hs_62.pt_at (i := 0) rfl) (by kernel_rfl) ?_
        refine SL.call (f := 49) (args := #[.agg (cvA ((rcor c x0 x1 x2 x3 x4 x5 x6 x7 x8 x9 x10 x11).clean))]) (w1 := w_61) rfl rfl (by kernel_rfl) (nums_any (rcor c x0 x1 x2 x3 x4 x5 x6 x7 x8 x9 x10 x11).clean w_61 hrk.clean) ?_
        rintro x w_64 ⟨g_63, rfl, hb_67, hge_68, hc_65⟩
        refine ⟨.slice (some ⟨g_63, 0, none⟩) 12 12, rfl, ?_⟩
        have hs_66 := hs_62.fresh hc_65 hb_67 hge_68
        have hs_66 : SH [] w w_64 [pt g_24 (cvA ((rcor c x0 x1 x2 x3 x4 x5 x6 x7 x8 x9 x10 x11).clean)) 46, pt g_12 ⟨[.int .i64 x0, .int .i64 x1, .int .i64 x2, .int .i64 x3, .int .i64 x4, .int .i64 x5, .int .i64 x6, .int .i64 x7, .int .i64 x8, .int .i64 x9, .int .i64 x10, .int .i64 x11] ++ pad_14⟩ 3, pt g_1 (cvA c.clean) 46, pt g_4 czA 46, pt g_18 (nmA c.clean.clean) 3, pt g_63 (nmA ((rcor c x0 x1 x2 x3 x4 x5 x6 x7 x8 x9 x10 x11).clean.clean)) 3] := hs_66
        refine SL.v (.slice (some ⟨g_12, 0, none⟩) 12 c_13) ?_
        refine SL.call (f := 55) (args := #[.slice (some ⟨g_63, 0, none⟩) 12 12, .slice (some ⟨g_12, 0, none⟩) 12 c_13]) (w1 := w_64) rfl rfl (by kernel_rfl) (sleq_any (rcor c x0 x1 x2 x3 x4 x5 x6 x7 x8 x9 x10 x11).clean.clean.nums [x0, x1, x2, x3, x4, x5, x6, x7, x8, x9, x10, x11] g_63 g_12 12 c_13 [] pad_14 w_64 (hs_66.pt_at (i := 5) rfl) (hs_66.pt_at (i := 1) rfl) (Nat.le_of_ble_eq_true rfl)) ?_
        rintro x w_69 ⟨rfl, hc_70⟩
        refine ⟨.bool (decide ((rcor c x0 x1 x2 x3 x4 x5 x6 x7 x8 x9 x10 x11).clean.clean.nums = [x0, x1, x2, x3, x4, x5, x6, x7, x8, x9, x10, x11])), rfl, ?_⟩
        have hs_71 := hs_66.grow hc_70
        refine SL.v (.bool (!(decide ((rcor c x0 x1 x2 x3 x4 x5 x6 x7 x8 x9 x10 x11).clean.clean.nums = [x0, x1, x2, x3, x4, x5, x6, x7, x8, x9, x10, x11])))) ?_
        refine SL.nil ?_
        rcases Bool.eq_false_or_eq_true (decide ((rcor c x0 x1 x2 x3 x4 x5 x6 x7 x8 x9 x10 x11).clean.clean.nums = [x0, x1, x2, x3, x4, x5, x6, x7, x8, x9, x10, x11])) with hb_72 | hb_72
        · try rw [hb_72]
          have hqhb_72 := of_decide_eq_true hb_72
          refine CW.cond_false (by kernel_rfl) ?_
          refine CW.skip ?_
          refine CW.seq ?_
          refine CW.region ?_
          refine SL.load (g := g_24) (off := 0) (v := .agg (cvA ((rcor c x0 x1 x2 x3 x4 x5 x6 x7 x8 x9 x10 x11).clean))) rfl rfl rfl (by kernel_rfl) (hs_71.pt_at (i := 0) rfl) (by kernel_rfl) ?_
          refine SL.storeH (i := 3) (g := g_4) (off := 0) (v := .agg (cvA ((rcor c x0 x1 x2 x3 x4 x5 x6 x7 x8 x9 x10 x11).clean))) (L' := [pt g_24 (cvA ((rcor c x0 x1 x2 x3 x4 x5 x6 x7 x8 x9 x10 x11).clean)) 46, pt g_12 ⟨[.int .i64 x0, .int .i64 x1, .int .i64 x2, .int .i64 x3, .int .i64 x4, .int .i64 x5, .int .i64 x6, .int .i64 x7, .int .i64 x8, .int .i64 x9, .int .i64 x10, .int .i64 x11] ++ pad_14⟩ 3, pt g_1 (cvA c.clean) 46, pt g_4 (cvA ((rcor c x0 x1 x2 x3 x4 x5 x6 x7 x8 x9 x10 x11).clean)) 46, pt g_18 (nmA c.clean.clean) 3, pt g_63 (nmA ((rcor c x0 x1 x2 x3 x4 x5 x6 x7 x8 x9 x10 x11).clean.clean)) 3]) hs_71 rfl rfl rfl (by kernel_rfl) (by kernel_rfl) rfl (by kernel_rfl) (by kernel_rfl) rfl (by kernel_rfl) rfl (fun w_73 hs_74 => ?_)
          refine SL.v (.int .i64 0) ?_
          refine SL.nil ?_
          refine CW.ret ?_
          repeat with_reducible first | refine PThen.ret ?_ | refine PBlock.ret ?_
          refine PRet.cellTmp (t := 4) (u := 5) (ty := 46) (g := g_4) (v := .agg (cvA ((rcor c x0 x1 x2 x3 x4 x5 x6 x7 x8 x9 x10 x11).clean))) (v' := .int .i64 0) rfl rfl rfl (by kernel_rfl) (hs_74.pt_at (i := 3) rfl) (by kernel_rfl) (by kernel_rfl) ?_
          exact ⟨rfl, hs_74.gr⟩
        · try rw [hb_72]
          have hqhb_72 := of_decide_eq_false hb_72
          refine CW.cond_true (by kernel_rfl) ?_
          refine CW.seq ?_
          refine CW.region ?_
          refine SL.load (g := g_1) (off := 0) (v := .agg (cvA c.clean)) rfl rfl rfl (by kernel_rfl) (hs_71.pt_at (i := 2) rfl) (by kernel_rfl) ?_
          refine SL.storeH (i := 3) (g := g_4) (off := 0) (v := .agg (cvA c.clean)) (L' := [pt g_24 (cvA ((rcor c x0 x1 x2 x3 x4 x5 x6 x7 x8 x9 x10 x11).clean)) 46, pt g_12 ⟨[.int .i64 x0, .int .i64 x1, .int .i64 x2, .int .i64 x3, .int .i64 x4, .int .i64 x5, .int .i64 x6, .int .i64 x7, .int .i64 x8, .int .i64 x9, .int .i64 x10, .int .i64 x11] ++ pad_14⟩ 3, pt g_1 (cvA c.clean) 46, pt g_4 (cvA c.clean) 46, pt g_18 (nmA c.clean.clean) 3, pt g_63 (nmA ((rcor c x0 x1 x2 x3 x4 x5 x6 x7 x8 x9 x10 x11).clean.clean)) 3]) hs_71 rfl rfl rfl (by kernel_rfl) (by kernel_rfl) rfl (by kernel_rfl) (by kernel_rfl) rfl (by kernel_rfl) rfl (fun w_75 hs_76 => ?_)
          refine SL.v (.int .i64 3) ?_
          refine SL.nil ?_
          refine CW.ret ?_
          repeat with_reducible first | refine PThen.ret ?_ | refine PBlock.ret ?_
          refine PRet.cellTmp (t := 4) (u := 5) (ty := 46) (g := g_4) (v := .agg (cvA c.clean)) (v' := .int .i64 3) rfl rfl rfl (by kernel_rfl) (hs_76.pt_at (i := 3) rfl) (by kernel_rfl) (by kernel_rfl) ?_
          exact ⟨rfl, hs_76.gr⟩
end Go.Proofs.YtfkecgkfcldffaaDoor
