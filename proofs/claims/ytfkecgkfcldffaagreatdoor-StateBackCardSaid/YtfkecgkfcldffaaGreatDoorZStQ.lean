/-
  A state that is brought back by the program, walked (gen_sto.py).
  A state that is brought back by the document, walked (gen_sto.py).
  The law StateReports (gen_stq.py).
-/
import Derived.Test.YtfkecgkfcldffaaGreatDoorZStN
import Derived.Test.YtfkecgkfcldffaaGreatDoorZStG
import Derived.Test.YtfkecgkfcldffaaGreatDoorZStM
namespace Go.Proofs.YtfkecgkfcldffaaGreatDoor
set_option linter.unusedSimpArgs false
set_option linter.unusedVariables false
open Go.RowKit
set_option linter.unusedVariables false

set_option maxRecDepth 100000 in
set_option maxHeartbeats 4000000 in
theorem sleq_any (A B : List Int) (g1 g2 c1 c2 : Nat) (p1 p2 : List Value) (w : World) (h1 : w.heap[g1]? = some (.cells ⟨icells A ++ p1⟩ 3 (0, 0))) (h2 : w.heap[g2]? = some (.cells ⟨icells B ++ p2⟩ 3 (0, 0))) (hbig : A.length ≤ 100000) : Calls Tryz.prog 48 #[sv g1 0 A.length c1, sv g2 0 B.length c2] w fun e w' => e = .returned (.bool (decide (A = B))) ∧ Gr w w' := by
  refine calls_sx (n := 26) (args := [sv g1 0 A.length c1, sv g2 0 B.length c2]) Tryz.func48 rfl rfl rfl ?_
  have hs0 := SH.none w
  refine CW.seq ?_
  refine CW.region ?_
  refine SL.v (.bool false) ?_
  refine SL.nil ?_
  refine CW.seq ?_
  refine CW.seq ?_
  refine CW.region ?_
  refine SL.v (sv g1 0 A.length c1) ?_
  refine SL.val (v := iv ((A.length : Nat) : Int)) (w' := w) rfl rfl (by kernel_rfl) ?_
  refine SL.v (sv g2 0 B.length c2) ?_
  refine SL.val (v := iv ((B.length : Nat) : Int)) (w' := w) rfl rfl (by kernel_rfl) ?_
  refine SL.v (.bool (!(((A.length : Nat) : Int) == ((B.length : Nat) : Int)))) ?_
  refine SL.nil ?_
  rcases Bool.eq_false_or_eq_true (((A.length : Nat) : Int) == ((B.length : Nat) : Int)) with hb_1 | hb_1
  · try rw [hb_1]
    have hl_ : A.length = B.length := by have := of_decide_eq_true (show decide ((A.length : Int) = (B.length : Int)) = true by simpa using hb_1); omega
    refine CW.cond_false (by kernel_rfl) ?_
    refine CW.skip ?_
    refine CW.seq ?_
    refine CW.seq ?_
    refine CW.region ?_
    refine SL.v (sv g1 0 A.length c1) ?_
    refine SL.val (v := iv ((A.length : Nat) : Int)) (w' := w) rfl rfl (by kernel_rfl) ?_
    refine SL.v (iv 0) ?_
    refine SL.nil ?_
    refine CW.block ?_
    refine CW.loopI (fun m_ e9 w9 => ∃ (k : Nat), m_ = A.length - k ∧ SH [] w w9 [] ∧ (k ≤ A.length) ∧ (A.take k = B.take k) ∧ e9 0 = sv g1 0 A.length c1 ∧ e9 1 = sv g2 0 B.length c2 ∧ e9 4 = .bool false ∧ e9 12 = iv ((A.length : Nat) : Int) ∧ e9 13 = iv ((k : Nat) : Int)) ⟨_, 0, rfl, hs0, (Nat.zero_le _), rfl, (by kernel_rfl), (by kernel_rfl), (by kernel_rfl), (by kernel_rfl), (by kernel_rfl)⟩ ?_
    rintro m_2 e_3 w_4 ⟨k, hm_6, hs_5, hk, he, hv_7, hv_8, hv_9, hv_10, hv_11⟩
    obtain ⟨e_12, rfl⟩ : ∃ e_12, e_3 = put1 (put1 (put1 (put1 (put1 e_12 0 (sv g1 0 A.length c1)) 1 (sv g2 0 B.length c2)) 4 (.bool false)) 12 (iv ((A.length : Nat) : Int))) 13 (iv ((k : Nat) : Int)) := ⟨e_3, (put_self hv_11).trans (congrArg (fun z => put1 z 13 (iv ((k : Nat) : Int))) ((put_self hv_10).trans (congrArg (fun z => put1 z 12 (iv ((A.length : Nat) : Int))) ((put_self hv_9).trans (congrArg (fun z => put1 z 4 (.bool false)) ((put_self hv_8).trans (congrArg (fun z => put1 z 1 (sv g2 0 B.length c2)) (put_self hv_7))))))))⟩
    clear hv_7 hv_8 hv_9 hv_10 hv_11
    refine CW.seq ?_
    refine CW.region ?_
    refine SL.v (.bool (decide (((k : Nat) : Int) < ((A.length : Nat) : Int)))) ?_
    refine SL.nil ?_
    refine CW.seq ?_
    rcases Bool.eq_false_or_eq_true (decide (((k : Nat) : Int) < ((A.length : Nat) : Int))) with hb_13 | hb_13
    · try rw [hb_13]
      have hqhb_13 := of_decide_eq_true hb_13
      refine CW.cond_true (by kernel_rfl) ?_
      refine CW.skip ?_
      refine CW.seq ?_
      refine CW.block ?_
      refine CW.seq ?_
      refine CW.region ?_
      refine SL.v (iv ((k : Nat) : Int)) ?_
      refine SL.v (iv ((k : Nat) : Int)) ?_
      refine SL.nil ?_
      refine CW.seq ?_
      have HGR : GrL [fun v _ => v = sv g1 0 A.length c1, fun v _ => v = iv ((k : Nat) : Int), fun v _ => v = pv g1 k, fun v _ => v = iv (A.getD k 0), fun v _ => v = sv g2 0 B.length c2, fun v _ => v = iv ((k : Nat) : Int), fun v _ => v = pv g2 k, fun v _ => v = iv (B.getD k 0)] := ⟨fun _ _ _ _ h => h, ⟨fun _ _ _ _ h => h, ⟨fun _ _ _ _ h => h, ⟨fun _ _ _ _ h => h, ⟨fun _ _ _ _ h => h, ⟨fun _ _ _ _ h => h, ⟨fun _ _ _ _ h => h, ⟨fun _ _ _ _ h => h, trivial⟩⟩⟩⟩⟩⟩⟩⟩
      refine CW.draw 8 (FW [fun v _ => v = sv g1 0 A.length c1, fun v _ => v = iv ((k : Nat) : Int), fun v _ => v = pv g1 k, fun v _ => v = iv (A.getD k 0), fun v _ => v = sv g2 0 B.length c2, fun v _ => v = iv ((k : Nat) : Int), fun v _ => v = pv g2 k, fun v _ => v = iv (B.getD k 0)]) (fun W => Gr w_4 W) (by kernel_rfl) (by kernel_rfl) (by kernel_rfl) (by kernel_rfl) (by kernel_rfl) (Gr.refl _).drew ?_ ?_
      · refine ⟨?_, ⟨?_, ⟨?_, ⟨?_, ⟨?_, ⟨?_, ⟨?_, ⟨?_, trivial⟩⟩⟩⟩⟩⟩⟩⟩
        · intro L ys W hB hF hP K hK
          show OpE _ _ _ W K
          exact OpE.val (sv g1 0 A.length c1) W (by kernel_rfl) (hK _ W hB rfl (fun _ _ h => h))
        · intro L ys W hB hF hP K hK
          show OpE _ _ _ W K
          exact OpE.val (iv ((k : Nat) : Int)) W (by kernel_rfl) (hK _ W hB rfl (fun _ _ h => h))
        · intro L ys W hB hF hP K hK
          show OpE _ _ _ W K
          exact OpE.known (j := 0) (v := sv g1 0 A.length c1) (hF 0 (hP.1 rfl)) (OpE.known (j := 1) (v := iv ((k : Nat) : Int)) (hF 1 (hP.2.1 rfl)) (OpE.val (pv g1 k) W ((run_ix (len := A.length) (cap := c1) (q := .i64) (I := ((k : Nat) : Int)) (g := g1) (off := 0) (i := k) (size := 1) rfl (by kernel_rfl) (by kernel_rfl) rfl (by kernel_rfl) (by kernel_rfl) (by omega)).trans (by rw [show 0 + k * 1 = k from by omega])) (hK _ W hB rfl (fun _ _ h => h))))
        · intro L ys W hB hF hP K hK
          show OpE _ _ _ W K
          exact OpE.known (j := 2) (v := pv g1 k) (hF 2 (hP.1 rfl)) (OpE.load (g := g1) (off := k) (v := iv (A.getD k 0)) rfl (by kernel_rfl) ((hs_5.grow hB).gr.blk h1) (ldV_one (by kernel_rfl) (by kernel_rfl) (get_map (fun z : Int => Value.int .i64 z) A p1 0 (by omega))) (hK _ W hB rfl (fun _ _ h => h)))
        · intro L ys W hB hF hP K hK
          show OpE _ _ _ W K
          exact OpE.val (sv g2 0 B.length c2) W (by kernel_rfl) (hK _ W hB rfl (fun _ _ h => h))
        · intro L ys W hB hF hP K hK
          show OpE _ _ _ W K
          exact OpE.val (iv ((k : Nat) : Int)) W (by kernel_rfl) (hK _ W hB rfl (fun _ _ h => h))
        · intro L ys W hB hF hP K hK
          show OpE _ _ _ W K
          exact OpE.known (j := 4) (v := sv g2 0 B.length c2) (hF 4 (hP.1 rfl)) (OpE.known (j := 5) (v := iv ((k : Nat) : Int)) (hF 5 (hP.2.1 rfl)) (OpE.val (pv g2 k) W ((run_ix (len := B.length) (cap := c2) (q := .i64) (I := ((k : Nat) : Int)) (g := g2) (off := 0) (i := k) (size := 1) rfl (by kernel_rfl) (by kernel_rfl) rfl (by kernel_rfl) (by kernel_rfl) (by omega)).trans (by rw [show 0 + k * 1 = k from by omega])) (hK _ W hB rfl (fun _ _ h => h))))
        · intro L ys W hB hF hP K hK
          show OpE _ _ _ W K
          exact OpE.known (j := 6) (v := pv g2 k) (hF 6 (hP.1 rfl)) (OpE.load (g := g2) (off := k) (v := iv (B.getD k 0)) rfl (by kernel_rfl) ((hs_5.grow hB).gr.blk h2) (ldV_one (by kernel_rfl) (by kernel_rfl) (get_map (fun z : Int => Value.int .i64 z) B p2 0 (by omega))) (hK _ W hB rfl (fun _ _ h => h)))
      · intro ys_17 w_14 hs_15 hF_16
        have hg_18 := hs_15
        have hs_15 : SH [] w w_14 [] := hs_5.grow hg_18
        refine SL.knownY (j := 3) (v := iv (A.getD k 0)) (show ys_17 3 = iv (A.getD k 0) from hF_16 3 (by decide)) (SL.knownY (j := 7) (v := iv (B.getD k 0)) (show ys_17 7 = iv (B.getD k 0) from hF_16 7 (by decide)) (?_))
        clear hF_16 HGR
        refine SL.v (.bool (!((A.getD k 0) == (B.getD k 0)))) ?_
        refine SL.nil ?_
        rcases Bool.eq_false_or_eq_true ((A.getD k 0) == (B.getD k 0)) with hb_19 | hb_19
        · try rw [hb_19]
          refine CW.cond_false (by kernel_rfl) ?_
          refine CW.skip ?_
          refine CW.region ?_
          refine SL.val (v := iv ((k + 1 : Nat) : Int)) (w' := w_14) rfl rfl (by have hw : IntKind.i64.wrap (((k : Nat) : Int) + 1) = ((k + 1 : Nat) : Int) := (IntWalk.i64_in _ (by omega)).trans (by omega); exact run_eqv (by kernel_rfl) (congrArg (fun z => Value.int .i64 z) hw)) ?_
          refine SL.v (iv ((k + 1 : Nat) : Int)) ?_
          refine SL.nil ?_
          have hg_ : A.getD k 0 = B.getD k 0 := by simpa using hb_19
          exact ⟨_, ⟨k + 1, rfl, hs_15, (by omega), (by rw [take_snocD (by omega), take_snocD (by omega), he, hg_]), (by kernel_rfl), (by kernel_rfl), (by kernel_rfl), (by kernel_rfl), (by kernel_rfl)⟩, by omega⟩
        · try rw [hb_19]
          refine CW.cond_true (by kernel_rfl) ?_
          refine CW.seq ?_
          refine CW.region ?_
          refine SL.v (.bool false) ?_
          refine SL.nil ?_
          refine CW.ret ?_
          repeat with_reducible first | refine PThen.ret ?_ | refine PBlock.ret ?_
          refine PRet.tmp (t := 4) (v := .bool false) rfl rfl (by kernel_rfl) ?_
          have hne : A.getD k 0 ≠ B.getD k 0 := by simpa using hb_19
          exact ⟨by rw [decide_eq_false (fun e => hne (by rw [e]))], hs_15.gr⟩
    · try rw [hb_13]
      have hqhb_13 := of_decide_eq_false hb_13
      refine CW.cond_false (by kernel_rfl) ?_
      refine CW.exit ?_
      repeat with_reducible first | refine PThen.exit ?_ | refine PBlock.out rfl ?_
      with_reducible refine PBlock.here ?_
      repeat with_reducible refine PBlock.normal ?_
      refine CW.seq ?_
      refine CW.region ?_
      refine SL.v (.bool true) ?_
      refine SL.nil ?_
      refine CW.ret ?_
      repeat with_reducible first | refine PThen.ret ?_ | refine PBlock.ret ?_
      refine PRet.tmp (t := 4) (v := .bool true) rfl rfl (by kernel_rfl) ?_
      have e1 : A.take k = A := List.take_of_length_le (by omega)
      have e2 : B.take k = B := List.take_of_length_le (by omega)
      rw [e1, e2] at he
      exact ⟨by rw [decide_eq_true he], hs_5.gr⟩
  · try rw [hb_1]
    refine CW.cond_true (by kernel_rfl) ?_
    refine CW.seq ?_
    refine CW.region ?_
    refine SL.v (.bool false) ?_
    refine SL.nil ?_
    refine CW.ret ?_
    repeat with_reducible first | refine PThen.ret ?_ | refine PBlock.ret ?_
    refine PRet.tmp (t := 4) (v := .bool false) rfl rfl (by kernel_rfl) ?_
    have hne : ¬ A.length = B.length := by intro e; rw [e] at hb_1; simp at hb_1
    exact ⟨by rw [decide_eq_false (fun e => hne (by rw [e]))], hs0.gr⟩
theorem isL {l : List Int} (h : l.length = 12) : ∃ x0 x1 x2 x3 x4 x5 x6 x7 x8 x9 x10 x11, l = [x0, x1, x2, x3, x4, x5, x6, x7, x8, x9, x10, x11] := by
  match l, h with
  | [x0, x1, x2, x3, x4, x5, x6, x7, x8, x9, x10, x11], _ => exact ⟨x0, x1, x2, x3, x4, x5, x6, x7, x8, x9, x10, x11, rfl⟩
abbrev qStO_3 (x0 : Int) (x1 : Int) (x2 : Int) (x3 : Int) (x4 : Int) (x5 : Int) (x6 : Int) (x7 : Int) (x8 : Int) (x9 : Int) (x10 : Int) (x11 : Int) : List Value := [iv x0, iv x1, iv x2, iv x3, iv x4, iv x5, iv x6, iv x7, iv x8, iv x9, iv x10, iv x11]
/-- Twelve numbers, read. -/
theorem pparse_12 (l : List Int) (x0 x1 x2 x3 x4 x5 x6 x7 x8 x9 x10 x11 : Int) (w : World) (hl : ∀ c ∈ l, 0 ≤ c ∧ c < 256) (hn : l.length ≤ 100000) (ha : l.all isAcc = true) (hx : numsR l = [x0, x1, x2, x3, x4, x5, x6, x7, x8, x9, x10, x11]) :
    Tr Tryz.prog 46 #[.string (strOf l)] w [] (fun v Q => ∃ g c pad, v = .tuple #[sv g 0 12 c, iv 0] ∧ Q = [pt g ⟨(qStO_3 x0 x1 x2 x3 x4 x5 x6 x7 x8 x9 x10 x11) ++ pad⟩ 3]) := fun fp hfp => by
  refine (pparse_any l w hl hn fp hfp).mono fun e w' hR => ?_
  obtain ⟨v, Q, fp', rfl, hR, hst, hu, hf⟩ := hR
  rcases hR with ⟨_, a, c, rfl, rfl⟩ | ⟨h, _⟩
  · rw [hx] at hst
    obtain ⟨h0, ⟨_, _, h1, _⟩ | ⟨g, pad, rfl, rfl, h3, h4⟩⟩ := hst.one
    · simp at h1
    · exact ⟨_, _, [g], rfl, ⟨g, c, pad, by rw [hx]; rfl, rfl⟩, HSt.mk1 ⟨rfl, h3⟩, hu, hf⟩
  · rw [ha] at h; cases h
theorem pparse_bad (l : List Int) (w : World) (hl : ∀ c ∈ l, 0 ≤ c ∧ c < 256) (hn : l.length ≤ 100000) (ha : l.all isAcc = false) :
    Tr Tryz.prog 46 #[.string (strOf l)] w [] (fun v Q => v = .tuple #[.slice none 0 0, iv 3] ∧ Q = []) :=
  (pparse_any l w hl hn).mono fun v Q hR => by
    rcases hR with ⟨h, _⟩ | ⟨_, h⟩
    · rw [ha] at h; cases h
    · exact h
theorem pparse_len (l : List Int) (w : World) (hl : ∀ c ∈ l, 0 ≤ c ∧ c < 256) (hn : l.length ≤ 100000) (ha : l.all isAcc = true) :
    Tr Tryz.prog 46 #[.string (strOf l)] w [] (fun v Q => ∃ a c, v = .tuple #[.slice a (numsR l).length c, iv 0] ∧ Q = [rdH 3 a (numsR l).length c (icells (numsR l))]) :=
  (pparse_any l w hl hn).mono fun v Q hR => by
    rcases hR with ⟨_, h⟩ | ⟨h, _⟩
    · exact h
    · rw [ha] at h; cases h
abbrev nmA (c : Cor) : Array Value := #[iv c.level, iv (flagZ c.eight), iv (c.modes / 4096), iv (c.modes % 4096), iv (flagZ c.stream), iv c.status, iv (flagZ c.below), iv c.mt, iv c.ml, iv c.mb, iv c.mr, iv (flagZ c.origin)]
/-- A state with other numbers. -/
def rcor (c : Cor) (x0 x1 x2 x3 x4 x5 x6 x7 x8 x9 x10 x11 : Int) : Cor := { c.clean with level := x0, eight := !(x1 == 0), modes := x2 * 4096 + x3, stream := !(x4 == 0), status := x5, below := !(x6 == 0), mt := x7, ml := x8, mb := x9, mr := x10, origin := !(x11 == 0) }
def In16 (x : Int) : Prop := 0 ≤ x ∧ x ≤ 65535
theorem i6p {x : Int} (h : In16 x) : I6 x := by unfold In16 at h; unfold I6; omega
theorem rcor_ok {c : Cor} (h : c.Ok) (x0 x1 x2 x3 x4 x5 x6 x7 x8 x9 x10 x11 : Int) (hb : In16 x0 ∧ In16 x1 ∧ In16 x2 ∧ In16 x3 ∧ In16 x4 ∧ In16 x5 ∧ In16 x6 ∧ In16 x7 ∧ In16 x8 ∧ In16 x9 ∧ In16 x10 ∧ In16 x11) : (rcor c x0 x1 x2 x3 x4 x5 x6 x7 x8 x9 x10 x11).Ok := by
  have k := h.clean
  obtain ⟨h0, h1, h2, h3, h4, h5, h6, h7, h8, h9, h10, h11⟩ := hb
  refine ⟨k.row, k.col, k.rend, k.g, k.gl, k.gr, k.sg, k.p, ⟨i6p h7, i6p h8, i6p h9, i6p h10⟩, ⟨?_, ?_⟩, i6p h0, i6p h5, k.page, k.pages⟩
  · show 0 ≤ x2 * 4096 + x3; unfold In16 at h2 h3; omega
  · show x2 * 4096 + x3 < 4294967296; unfold In16 at h2 h3; omega
set_option maxRecDepth 100000 in
set_option maxHeartbeats 4000000 in
theorem prs_bad (c : Cor) (l : List Int) (w : World) (hok : c.Ok) (hl : ∀ c ∈ l, 0 ≤ c ∧ c < 256) (hn : l.length ≤ 300) (ha : l.all isAcc = false) : Calls Tryz.prog 14 #[.agg (cvA c), .string (strOf l)] w fun e w' => e = .returned (.tuple #[.agg (cvA c.clean), iv 3]) ∧ Gr w w' := by
  have hcm := hok.clean.modes
  refine calls_sx (n := 91) (args := [.agg (cvA c), .string (strOf l)]) Tryz.func14 rfl rfl rfl ?_
  have hs0 := SH.none w
  refine CW.seq ?_
  refine CW.region ?_
  refine SL.newH (mk := fun g => pv g 0) (C := (cvA c)) (T := 45) hs0 rfl rfl (by kernel_rfl) (fun g_1 w_2 hs_3 => ?_)
  have hs_3 : SH [] w w_2 [pt g_1 (cvA c) 45] := hs_3
  refine SL.newH (mk := fun g => pv g 0) (C := czA) (T := 45) hs_3 rfl rfl (by kernel_rfl) (fun g_4 w_5 hs_6 => ?_)
  have hs_6 : SH [] w w_5 [pt g_1 (cvA c) 45, pt g_4 czA 45] := hs_6
  refine SL.v (iv 0) ?_
  refine SL.nil ?_
  refine CW.seq ?_
  refine CW.region ?_
  refine SL.load (g := g_1) (off := 0) (v := .agg (cvA c)) rfl rfl rfl (by kernel_rfl) (hs_6.pt_at (i := 0) rfl) (by kernel_rfl) ?_
  refine SL.call (f := 20) (args := #[.agg (cvA c)]) (w1 := w_5) rfl rfl (by kernel_rfl) (clean_any c w_5 hok) ?_
  rintro x w_7 ⟨rfl, hc_8⟩
  refine ⟨_, rfl, ?_⟩
  have hs_9 := hs_6.grow hc_8
  refine SL.storeH (i := 0) (g := g_1) (off := 0) (v := .agg (cvA c.clean)) (L' := [pt g_1 (cvA c.clean) 45, pt g_4 czA 45]) hs_9 rfl rfl rfl (by kernel_rfl) (by kernel_rfl) rfl (by kernel_rfl) (by kernel_rfl) rfl (by kernel_rfl) rfl (fun w_10 hs_11 => ?_)
  refine SL.nil ?_
  refine CW.seq ?_
  refine CW.region ?_
  refine SL.v (.string (strOf l)) ?_
  refine SL.callH (f := 46) (args := #[.string (strOf l)]) (Pre := []) (Rest := [pt g_1 (cvA c.clean) 45, pt g_4 czA 45]) [] hs_11 rfl rfl (by kernel_rfl) rfl (pparse_bad l w_10 hl (by omega) ha) ?_
  rintro v_ Q_ w_12 ⟨rfl, rfl⟩ hs_14
  have hs_14 : SH [] w w_12 [pt g_1 (cvA c.clean) 45, pt g_4 czA 45] := hs_14
  refine SL.v (.tuple #[.slice none 0 0, iv 3]) ?_
  refine SL.v (.slice none 0 0) ?_
  refine SL.v (iv 3) ?_
  refine SL.v (.slice none 0 0) ?_
  refine SL.v (iv 3) ?_
  refine SL.nil ?_
  refine CW.seq ?_
  refine CW.seq ?_
  refine CW.region ?_
  refine SL.v (iv 3) ?_
  refine SL.v (.bool true) ?_
  refine SL.v (.bool true) ?_
  refine SL.no true ?_
  refine SL.no true ?_
  refine SL.no true ?_
  refine SL.no true ?_
  refine SL.no true ?_
  refine SL.no true ?_
  refine SL.v (.bool true) ?_
  refine SL.nil ?_
  refine CW.cond_true (by kernel_rfl) ?_
  refine CW.seq ?_
  refine CW.region ?_
  refine SL.load (g := g_1) (off := 0) (v := .agg (cvA c.clean)) rfl rfl rfl (by kernel_rfl) (hs_14.pt_at (i := 0) rfl) (by kernel_rfl) ?_
  refine SL.storeH (i := 1) (g := g_4) (off := 0) (v := .agg (cvA c.clean)) (L' := [pt g_1 (cvA c.clean) 45, pt g_4 (cvA c.clean) 45]) hs_14 rfl rfl rfl (by kernel_rfl) (by kernel_rfl) rfl (by kernel_rfl) (by kernel_rfl) rfl (by kernel_rfl) rfl (fun w_15 hs_16 => ?_)
  refine SL.v (iv 3) ?_
  refine SL.nil ?_
  refine CW.ret ?_
  repeat with_reducible first | refine PThen.ret ?_ | refine PBlock.ret ?_
  refine PRet.cellTmp (t := 4) (u := 5) (ty := 45) (g := g_4) (v := .agg (cvA c.clean)) (v' := iv 3) rfl rfl rfl (by kernel_rfl) (hs_16.pt_at (i := 1) rfl) (by kernel_rfl) (by kernel_rfl) ?_
  exact ⟨rfl, hs_16.gr⟩
set_option maxRecDepth 100000 in
set_option maxHeartbeats 4000000 in
theorem prs_len (c : Cor) (l : List Int) (w : World) (hok : c.Ok) (hl : ∀ c ∈ l, 0 ≤ c ∧ c < 256) (hn : l.length ≤ 300) (ha : l.all isAcc = true) (hx : (numsR l).length ≠ 12) : Calls Tryz.prog 14 #[.agg (cvA c), .string (strOf l)] w fun e w' => e = .returned (.tuple #[.agg (cvA c.clean), iv 3]) ∧ Gr w w' := by
  have hcm := hok.clean.modes
  refine calls_sx (n := 91) (args := [.agg (cvA c), .string (strOf l)]) Tryz.func14 rfl rfl rfl ?_
  have hs0 := SH.none w
  refine CW.seq ?_
  refine CW.region ?_
  refine SL.newH (mk := fun g => pv g 0) (C := (cvA c)) (T := 45) hs0 rfl rfl (by kernel_rfl) (fun g_1 w_2 hs_3 => ?_)
  have hs_3 : SH [] w w_2 [pt g_1 (cvA c) 45] := hs_3
  refine SL.newH (mk := fun g => pv g 0) (C := czA) (T := 45) hs_3 rfl rfl (by kernel_rfl) (fun g_4 w_5 hs_6 => ?_)
  have hs_6 : SH [] w w_5 [pt g_1 (cvA c) 45, pt g_4 czA 45] := hs_6
  refine SL.v (iv 0) ?_
  refine SL.nil ?_
  refine CW.seq ?_
  refine CW.region ?_
  refine SL.load (g := g_1) (off := 0) (v := .agg (cvA c)) rfl rfl rfl (by kernel_rfl) (hs_6.pt_at (i := 0) rfl) (by kernel_rfl) ?_
  refine SL.call (f := 20) (args := #[.agg (cvA c)]) (w1 := w_5) rfl rfl (by kernel_rfl) (clean_any c w_5 hok) ?_
  rintro x w_7 ⟨rfl, hc_8⟩
  refine ⟨_, rfl, ?_⟩
  have hs_9 := hs_6.grow hc_8
  refine SL.storeH (i := 0) (g := g_1) (off := 0) (v := .agg (cvA c.clean)) (L' := [pt g_1 (cvA c.clean) 45, pt g_4 czA 45]) hs_9 rfl rfl rfl (by kernel_rfl) (by kernel_rfl) rfl (by kernel_rfl) (by kernel_rfl) rfl (by kernel_rfl) rfl (fun w_10 hs_11 => ?_)
  refine SL.nil ?_
  refine CW.seq ?_
  refine CW.region ?_
  refine SL.v (.string (strOf l)) ?_
  refine SL.callH (f := 46) (args := #[.string (strOf l)]) (Pre := []) (Rest := [pt g_1 (cvA c.clean) 45, pt g_4 czA 45]) [] hs_11 rfl rfl (by kernel_rfl) rfl (pparse_len l w_10 hl (by omega) ha) ?_
  rintro v_ Q_ w_15 ⟨a_12, c_13, rfl, rfl⟩ hs_17
  have hs_17 : SH [] w w_15 [rdH 3 a_12 (numsR l).length c_13 (icells (numsR l)), pt g_1 (cvA c.clean) 45, pt g_4 czA 45] := hs_17
  refine SL.v (.tuple #[.slice a_12 ((numsR l).length) c_13, iv 0]) ?_
  refine SL.v (.slice a_12 ((numsR l).length) c_13) ?_
  refine SL.v (iv 0) ?_
  refine SL.v (.slice a_12 ((numsR l).length) c_13) ?_
  refine SL.v (iv 0) ?_
  refine SL.nil ?_
  refine CW.seq ?_
  refine CW.seq ?_
  refine CW.region ?_
  refine SL.v (iv 0) ?_
  refine SL.v (.bool false) ?_
  refine SL.v (.bool false) ?_
  refine SL.go ?_
  refine SL.v (.slice a_12 ((numsR l).length) c_13) ?_
  refine SL.go ?_
  refine SL.val (v := iv (((numsR l).length : Nat) : Int)) (w' := w_15) rfl rfl (by kernel_rfl) ?_
  refine SL.go ?_
  refine SL.load (g := g_1) (off := 0) (v := .agg (cvA c.clean)) rfl rfl rfl (by kernel_rfl) (hs_17.pt_at (i := 1) rfl) (by kernel_rfl) ?_
  refine SL.go ?_
  refine SL.call (f := 47) (args := #[.agg (cvA c.clean)]) (w1 := w_15) rfl rfl (by kernel_rfl) (nums_any c.clean w_15 hok.clean) ?_
  rintro x w_19 ⟨g_18, rfl, hb_22, hge_23, hc_20⟩
  refine ⟨_, rfl, ?_⟩
  have hs_21 := hs_17.fresh hc_20 hb_22 hge_23
  have hs_21 : SH [] w w_19 [rdH 3 a_12 (numsR l).length c_13 (icells (numsR l)), pt g_1 (cvA c.clean) 45, pt g_4 czA 45, pt g_18 (nmA c.clean.clean) 3] := hs_21
  refine SL.go ?_
  refine SL.val (v := iv 12) (w' := w_19) rfl rfl (by kernel_rfl) ?_
  refine SL.go ?_
  refine SL.v (.bool (!((((numsR l).length : Nat) : Int) == 12))) ?_
  refine SL.v (.bool (!((((numsR l).length : Nat) : Int) == 12))) ?_
  refine SL.nil ?_
  have hb_24 : ((((numsR l).length : Nat) : Int) == 12) = false := (by simp; omega)
  rw [hb_24]
  refine CW.cond_true (by kernel_rfl) ?_
  refine CW.seq ?_
  refine CW.region ?_
  refine SL.load (g := g_1) (off := 0) (v := .agg (cvA c.clean)) rfl rfl rfl (by kernel_rfl) (hs_21.pt_at (i := 1) rfl) (by kernel_rfl) ?_
  refine SL.storeH (i := 2) (g := g_4) (off := 0) (v := .agg (cvA c.clean)) (L' := [rdH 3 a_12 (numsR l).length c_13 (icells (numsR l)), pt g_1 (cvA c.clean) 45, pt g_4 (cvA c.clean) 45, pt g_18 (nmA c.clean.clean) 3]) hs_21 rfl rfl rfl (by kernel_rfl) (by kernel_rfl) rfl (by kernel_rfl) (by kernel_rfl) rfl (by kernel_rfl) rfl (fun w_25 hs_26 => ?_)
  refine SL.v (iv 3) ?_
  refine SL.nil ?_
  refine CW.ret ?_
  repeat with_reducible first | refine PThen.ret ?_ | refine PBlock.ret ?_
  refine PRet.cellTmp (t := 4) (u := 5) (ty := 45) (g := g_4) (v := .agg (cvA c.clean)) (v' := iv 3) rfl rfl rfl (by kernel_rfl) (hs_26.pt_at (i := 2) rfl) (by kernel_rfl) (by kernel_rfl) ?_
  exact ⟨rfl, hs_26.gr⟩
abbrev qStO_0 (c : Cor) (x2 : Int) (x3 : Int) (x0 : Int) (x1 : Int) : Array Value := #[iv c.clean.row, iv c.clean.col, .int .u8 c.clean.rend, .bool c.clean.kept, .bool c.clean.wrap, .bool c.clean.origin, iv c.clean.g0, iv c.clean.g1, iv c.clean.g2, iv c.clean.g3, iv c.clean.gl, iv c.clean.gr, iv c.clean.sg, iv c.clean.pt, iv c.clean.pl, iv c.clean.pb, iv c.clean.pr, iv c.clean.mt, iv c.clean.ml, iv c.clean.mb, iv c.clean.mr, .int .u32 ((x2 * 4096) + x3), iv x0, .bool (!(x1 == 0)), .bool c.clean.stream, iv c.clean.status, .bool c.clean.below, iv c.clean.page, iv c.clean.pages]
abbrev qStO_1 (c : Cor) (x0 : Int) : Array Value := #[iv c.clean.row, iv c.clean.col, .int .u8 c.clean.rend, .bool c.clean.kept, .bool c.clean.wrap, .bool c.clean.origin, iv c.clean.g0, iv c.clean.g1, iv c.clean.g2, iv c.clean.g3, iv c.clean.gl, iv c.clean.gr, iv c.clean.sg, iv c.clean.pt, iv c.clean.pl, iv c.clean.pb, iv c.clean.pr, iv c.clean.mt, iv c.clean.ml, iv c.clean.mb, iv c.clean.mr, .int .u32 c.clean.modes, iv x0, .bool c.clean.eight, .bool c.clean.stream, iv c.clean.status, .bool c.clean.below, iv c.clean.page, iv c.clean.pages]
abbrev qStO_2 (c : Cor) (x2 : Int) (x3 : Int) (x0 : Int) (x1 : Int) (x4 : Int) : Array Value := #[iv c.clean.row, iv c.clean.col, .int .u8 c.clean.rend, .bool c.clean.kept, .bool c.clean.wrap, .bool c.clean.origin, iv c.clean.g0, iv c.clean.g1, iv c.clean.g2, iv c.clean.g3, iv c.clean.gl, iv c.clean.gr, iv c.clean.sg, iv c.clean.pt, iv c.clean.pl, iv c.clean.pb, iv c.clean.pr, iv c.clean.mt, iv c.clean.ml, iv c.clean.mb, iv c.clean.mr, .int .u32 ((x2 * 4096) + x3), iv x0, .bool (!(x1 == 0)), .bool (!(x4 == 0)), iv c.clean.status, .bool c.clean.below, iv c.clean.page, iv c.clean.pages]
abbrev qStO_4 (c : Cor) (x0 : Int) (x1 : Int) : Array Value := #[iv c.clean.row, iv c.clean.col, .int .u8 c.clean.rend, .bool c.clean.kept, .bool c.clean.wrap, .bool c.clean.origin, iv c.clean.g0, iv c.clean.g1, iv c.clean.g2, iv c.clean.g3, iv c.clean.gl, iv c.clean.gr, iv c.clean.sg, iv c.clean.pt, iv c.clean.pl, iv c.clean.pb, iv c.clean.pr, iv c.clean.mt, iv c.clean.ml, iv c.clean.mb, iv c.clean.mr, .int .u32 c.clean.modes, iv x0, .bool (!(x1 == 0)), .bool c.clean.stream, iv c.clean.status, .bool c.clean.below, iv c.clean.page, iv c.clean.pages]
abbrev qStO_5 (c : Cor) (x2 : Int) (x3 : Int) (x0 : Int) (x1 : Int) (x4 : Int) (x5 : Int) : Array Value := #[iv c.clean.row, iv c.clean.col, .int .u8 c.clean.rend, .bool c.clean.kept, .bool c.clean.wrap, .bool c.clean.origin, iv c.clean.g0, iv c.clean.g1, iv c.clean.g2, iv c.clean.g3, iv c.clean.gl, iv c.clean.gr, iv c.clean.sg, iv c.clean.pt, iv c.clean.pl, iv c.clean.pb, iv c.clean.pr, iv c.clean.mt, iv c.clean.ml, iv c.clean.mb, iv c.clean.mr, .int .u32 ((x2 * 4096) + x3), iv x0, .bool (!(x1 == 0)), .bool (!(x4 == 0)), iv x5, .bool c.clean.below, iv c.clean.page, iv c.clean.pages]
abbrev qStO_6 (c : Cor) (x11 : Int) (x7 : Int) (x8 : Int) (x9 : Int) (x10 : Int) (x2 : Int) (x3 : Int) (x0 : Int) (x1 : Int) (x4 : Int) (x5 : Int) (x6 : Int) : Array Value := #[iv c.clean.row, iv c.clean.col, .int .u8 c.clean.rend, .bool c.clean.kept, .bool c.clean.wrap, .bool (!(x11 == 0)), iv c.clean.g0, iv c.clean.g1, iv c.clean.g2, iv c.clean.g3, iv c.clean.gl, iv c.clean.gr, iv c.clean.sg, iv c.clean.pt, iv c.clean.pl, iv c.clean.pb, iv c.clean.pr, iv x7, iv x8, iv x9, iv x10, .int .u32 ((x2 * 4096) + x3), iv x0, .bool (!(x1 == 0)), .bool (!(x4 == 0)), iv x5, .bool (!(x6 == 0)), iv c.clean.page, iv c.clean.pages]
set_option maxRecDepth 100000 in
set_option maxHeartbeats 8000000 in
theorem prs_12 (c : Cor) (l : List Int) (w : World) (hok : c.Ok) (hl : ∀ c ∈ l, 0 ≤ c ∧ c < 256) (hn : l.length ≤ 300) (x0 x1 x2 x3 x4 x5 x6 x7 x8 x9 x10 x11 : Int) (ha : l.all isAcc = true) (hx : numsR l = [x0, x1, x2, x3, x4, x5, x6, x7, x8, x9, x10, x11]) (hb : In16 x0 ∧ In16 x1 ∧ In16 x2 ∧ In16 x3 ∧ In16 x4 ∧ In16 x5 ∧ In16 x6 ∧ In16 x7 ∧ In16 x8 ∧ In16 x9 ∧ In16 x10 ∧ In16 x11) : Calls Tryz.prog 14 #[.agg (cvA c), .string (strOf l)] w fun e w' => e = .returned (.tuple #[.agg (bif decide ((rcor c x0 x1 x2 x3 x4 x5 x6 x7 x8 x9 x10 x11).clean.clean.nums = [x0, x1, x2, x3, x4, x5, x6, x7, x8, x9, x10, x11]) then cvA (rcor c x0 x1 x2 x3 x4 x5 x6 x7 x8 x9 x10 x11).clean else cvA c.clean), iv (bif decide ((rcor c x0 x1 x2 x3 x4 x5 x6 x7 x8 x9 x10 x11).clean.clean.nums = [x0, x1, x2, x3, x4, x5, x6, x7, x8, x9, x10, x11]) then 0 else 3)]) ∧ Gr w w' := by
  have hcm := hok.clean.modes
  have hrk := rcor_ok hok x0 x1 x2 x3 x4 x5 x6 x7 x8 x9 x10 x11 hb
  have hrm := hrk.clean.modes
  obtain ⟨h0, h1, h2, h3, h4, h5, h6, h7, h8, h9, h10, h11⟩ := hb
  unfold In16 at *
  refine calls_sx (n := 91) (args := [.agg (cvA c), .string (strOf l)]) Tryz.func14 rfl rfl rfl ?_
  have hs0 := SH.none w
  refine CW.seq ?_
  refine CW.region ?_
  refine SL.newH (mk := fun g => pv g 0) (C := (cvA c)) (T := 45) hs0 rfl rfl (by kernel_rfl) (fun g_1 w_2 hs_3 => ?_)
  have hs_3 : SH [] w w_2 [pt g_1 (cvA c) 45] := hs_3
  refine SL.newH (mk := fun g => pv g 0) (C := czA) (T := 45) hs_3 rfl rfl (by kernel_rfl) (fun g_4 w_5 hs_6 => ?_)
  have hs_6 : SH [] w w_5 [pt g_1 (cvA c) 45, pt g_4 czA 45] := hs_6
  refine SL.v (iv 0) ?_
  refine SL.nil ?_
  refine CW.seq ?_
  refine CW.region ?_
  refine SL.load (g := g_1) (off := 0) (v := .agg (cvA c)) rfl rfl rfl (by kernel_rfl) (hs_6.pt_at (i := 0) rfl) (by kernel_rfl) ?_
  refine SL.call (f := 20) (args := #[.agg (cvA c)]) (w1 := w_5) rfl rfl (by kernel_rfl) (clean_any c w_5 hok) ?_
  rintro x w_7 ⟨rfl, hc_8⟩
  refine ⟨_, rfl, ?_⟩
  have hs_9 := hs_6.grow hc_8
  refine SL.storeH (i := 0) (g := g_1) (off := 0) (v := .agg (cvA c.clean)) (L' := [pt g_1 (cvA c.clean) 45, pt g_4 czA 45]) hs_9 rfl rfl rfl (by kernel_rfl) (by kernel_rfl) rfl (by kernel_rfl) (by kernel_rfl) rfl (by kernel_rfl) rfl (fun w_10 hs_11 => ?_)
  refine SL.nil ?_
  refine CW.seq ?_
  refine CW.region ?_
  refine SL.v (.string (strOf l)) ?_
  refine SL.callH (f := 46) (args := #[.string (strOf l)]) (Pre := []) (Rest := [pt g_1 (cvA c.clean) 45, pt g_4 czA 45]) [] hs_11 rfl rfl (by kernel_rfl) rfl (pparse_12 l x0 x1 x2 x3 x4 x5 x6 x7 x8 x9 x10 x11 w_10 hl (by omega) ha hx) ?_
  rintro v_ Q_ w_15 ⟨g_12, c_13, pad_14, rfl, rfl⟩ hs_17
  have hs_17 : SH [] w w_15 [pt g_12 ⟨(qStO_3 x0 x1 x2 x3 x4 x5 x6 x7 x8 x9 x10 x11) ++ pad_14⟩ 3, pt g_1 (cvA c.clean) 45, pt g_4 czA 45] := hs_17
  refine SL.v (.tuple #[sv g_12 0 12 c_13, iv 0]) ?_
  refine SL.v (sv g_12 0 12 c_13) ?_
  refine SL.v (iv 0) ?_
  refine SL.v (sv g_12 0 12 c_13) ?_
  refine SL.v (iv 0) ?_
  refine SL.nil ?_
  refine CW.seq ?_
  refine CW.seq ?_
  refine CW.region ?_
  refine SL.v (iv 0) ?_
  refine SL.v (.bool false) ?_
  refine SL.v (.bool false) ?_
  refine SL.go ?_
  refine SL.v (sv g_12 0 12 c_13) ?_
  refine SL.go ?_
  refine SL.val (v := iv 12) (w' := w_15) rfl rfl (by kernel_rfl) ?_
  refine SL.go ?_
  refine SL.load (g := g_1) (off := 0) (v := .agg (cvA c.clean)) rfl rfl rfl (by kernel_rfl) (hs_17.pt_at (i := 1) rfl) (by kernel_rfl) ?_
  refine SL.go ?_
  refine SL.call (f := 47) (args := #[.agg (cvA c.clean)]) (w1 := w_15) rfl rfl (by kernel_rfl) (nums_any c.clean w_15 hok.clean) ?_
  rintro x w_19 ⟨g_18, rfl, hb_22, hge_23, hc_20⟩
  refine ⟨_, rfl, ?_⟩
  have hs_21 := hs_17.fresh hc_20 hb_22 hge_23
  have hs_21 : SH [] w w_19 [pt g_12 ⟨(qStO_3 x0 x1 x2 x3 x4 x5 x6 x7 x8 x9 x10 x11) ++ pad_14⟩ 3, pt g_1 (cvA c.clean) 45, pt g_4 czA 45, pt g_18 (nmA c.clean.clean) 3] := hs_21
  refine SL.go ?_
  refine SL.val (v := iv 12) (w' := w_19) rfl rfl (by kernel_rfl) ?_
  refine SL.go ?_
  refine SL.v (.bool false) ?_
  refine SL.v (.bool false) ?_
  refine SL.nil ?_
  refine CW.cond_false (by kernel_rfl) ?_
  refine CW.skip ?_
  refine CW.seq ?_
  refine CW.region ?_
  refine SL.load (g := g_1) (off := 0) (v := .agg (cvA c.clean)) rfl rfl rfl (by kernel_rfl) (hs_21.pt_at (i := 1) rfl) (by kernel_rfl) ?_
  refine SL.newH (mk := fun g => pv g 0) (C := czA) (T := 45) hs_21 rfl rfl (by kernel_rfl) (fun g_24 w_25 hs_26 => ?_)
  have hs_26 : SH [] w w_25 [pt g_12 ⟨(qStO_3 x0 x1 x2 x3 x4 x5 x6 x7 x8 x9 x10 x11) ++ pad_14⟩ 3, pt g_1 (cvA c.clean) 45, pt g_4 czA 45, pt g_18 (nmA c.clean.clean) 3, pt g_24 czA 45] := hs_26
  refine SL.storeH (i := 4) (g := g_24) (off := 0) (v := .agg (cvA c.clean)) (L' := [pt g_12 ⟨(qStO_3 x0 x1 x2 x3 x4 x5 x6 x7 x8 x9 x10 x11) ++ pad_14⟩ 3, pt g_1 (cvA c.clean) 45, pt g_4 czA 45, pt g_18 (nmA c.clean.clean) 3, pt g_24 (cvA c.clean) 45]) hs_26 rfl rfl rfl (by kernel_rfl) (by kernel_rfl) rfl (by kernel_rfl) (by kernel_rfl) rfl (by kernel_rfl) rfl (fun w_27 hs_28 => ?_)
  refine SL.nil ?_
  refine CW.seq ?_
  obtain ⟨fj_29, hpj_30, hfr_31⟩ := hs_28.frame (Pre := [pt g_24 (cvA c.clean) 45]) (Rest := [pt g_12 ⟨(qStO_3 x0 x1 x2 x3 x4 x5 x6 x7 x8 x9 x10 x11) ++ pad_14⟩ 3, pt g_1 (cvA c.clean) 45, pt g_4 czA 45, pt g_18 (nmA c.clean.clean) 3]) [4] rfl
  have HGR : GrL [fun v _ => v = sv g_12 0 12 c_13, fun v _ => v = pv g_12 0, fun v _ => v = iv x0, fun v _ => v = sv g_12 0 12 c_13, fun v _ => v = pv g_12 1, fun v _ => v = iv x1, fun v _ => v = .bool (!(x1 == 0)), fun v _ => v = sv g_12 0 12 c_13, fun v _ => v = pv g_12 2, fun v _ => v = iv x2, fun v _ => v = iv (x2 * 4096), fun v _ => v = sv g_12 0 12 c_13, fun v _ => v = pv g_12 3, fun v _ => v = iv x3, fun v _ => v = iv ((x2 * 4096) + x3), fun v _ => v = .int .u32 ((x2 * 4096) + x3), fun v _ => v = pv g_24 22, fun _ _ => True, fun v _ => v = pv g_24 23, fun _ _ => True] := ⟨fun _ _ _ _ h => h, ⟨fun _ _ _ _ h => h, ⟨fun _ _ _ _ h => h, ⟨fun _ _ _ _ h => h, ⟨fun _ _ _ _ h => h, ⟨fun _ _ _ _ h => h, ⟨fun _ _ _ _ h => h, ⟨fun _ _ _ _ h => h, ⟨fun _ _ _ _ h => h, ⟨fun _ _ _ _ h => h, ⟨fun _ _ _ _ h => h, ⟨fun _ _ _ _ h => h, ⟨fun _ _ _ _ h => h, ⟨fun _ _ _ _ h => h, ⟨fun _ _ _ _ h => h, ⟨fun _ _ _ _ h => h, ⟨fun _ _ _ _ h => h, ⟨fun _ _ _ _ h => h, ⟨fun _ _ _ _ h => h, ⟨fun _ _ _ _ h => h, trivial⟩⟩⟩⟩⟩⟩⟩⟩⟩⟩⟩⟩⟩⟩⟩⟩⟩⟩⟩⟩
  have HPU : PureL [fun v _ => v = sv g_12 0 12 c_13, fun v _ => v = pv g_12 0, fun v _ => v = iv x0, fun v _ => v = sv g_12 0 12 c_13, fun v _ => v = pv g_12 1, fun v _ => v = iv x1, fun v _ => v = .bool (!(x1 == 0)), fun v _ => v = sv g_12 0 12 c_13, fun v _ => v = pv g_12 2, fun v _ => v = iv x2, fun v _ => v = iv (x2 * 4096), fun v _ => v = sv g_12 0 12 c_13, fun v _ => v = pv g_12 3, fun v _ => v = iv x3, fun v _ => v = iv ((x2 * 4096) + x3), fun v _ => v = .int .u32 ((x2 * 4096) + x3), fun v _ => v = pv g_24 22, fun _ _ => True, fun v _ => v = pv g_24 23, fun _ _ => True] := ⟨fun _ _ _ h => h, ⟨fun _ _ _ h => h, ⟨fun _ _ _ h => h, ⟨fun _ _ _ h => h, ⟨fun _ _ _ h => h, ⟨fun _ _ _ h => h, ⟨fun _ _ _ h => h, ⟨fun _ _ _ h => h, ⟨fun _ _ _ h => h, ⟨fun _ _ _ h => h, ⟨fun _ _ _ h => h, ⟨fun _ _ _ h => h, ⟨fun _ _ _ h => h, ⟨fun _ _ _ h => h, ⟨fun _ _ _ h => h, ⟨fun _ _ _ h => h, ⟨fun _ _ _ h => h, ⟨fun _ _ _ h => h, ⟨fun _ _ _ h => h, ⟨fun _ _ _ h => h, trivial⟩⟩⟩⟩⟩⟩⟩⟩⟩⟩⟩⟩⟩⟩⟩⟩⟩⟩⟩⟩
  refine CW.drawG 20 (FW [fun v _ => v = sv g_12 0 12 c_13, fun v _ => v = pv g_12 0, fun v _ => v = iv x0, fun v _ => v = sv g_12 0 12 c_13, fun v _ => v = pv g_12 1, fun v _ => v = iv x1, fun v _ => v = .bool (!(x1 == 0)), fun v _ => v = sv g_12 0 12 c_13, fun v _ => v = pv g_12 2, fun v _ => v = iv x2, fun v _ => v = iv (x2 * 4096), fun v _ => v = sv g_12 0 12 c_13, fun v _ => v = pv g_12 3, fun v _ => v = iv x3, fun v _ => v = iv ((x2 * 4096) + x3), fun v _ => v = .int .u32 ((x2 * 4096) + x3), fun v _ => v = pv g_24 22, fun _ _ => True, fun v _ => v = pv g_24 23, fun _ _ => True]) (BaseS [17, 19] fj_29 w_27 [[pt g_24 (cvA c.clean) 45], [pt g_24 (qStO_1 c x0) 45], [pt g_24 (qStO_4 c x0 x1) 45]]) (by kernel_rfl) (by kernel_rfl) (by kernel_rfl) (by kernel_rfl) (by kernel_rfl) (BaseS.init hpj_30) ?_ ?_
  · refine ⟨?_, ⟨?_, ⟨?_, ⟨?_, ⟨?_, ⟨?_, ⟨?_, ⟨?_, ⟨?_, ⟨?_, ⟨?_, ⟨?_, ⟨?_, ⟨?_, ⟨?_, ⟨?_, ⟨?_, ⟨?_, ⟨?_, ⟨?_, trivial⟩⟩⟩⟩⟩⟩⟩⟩⟩⟩⟩⟩⟩⟩⟩⟩⟩⟩⟩⟩
    · intro L ys W hC hn hB hF hP K hK
      show OpE _ _ _ W K
      exact OpE.val (sv g_12 0 12 c_13) W (by kernel_rfl) (hK _ W (hB.step (by decide) (Gr.refl W)) rfl (fun _ _ h => h))
    · intro L ys W hC hn hB hF hP K hK
      show OpE _ _ _ W K
      exact OpE.known (j := 0) (v := sv g_12 0 12 c_13) (hF 0 (hP.1 rfl)) (OpE.val (pv g_12 0) W (by kernel_rfl) (hK _ W (hB.step (by decide) (Gr.refl W)) rfl (fun _ _ h => h)))
    · intro L ys W hC hn hB hF hP K hK
      show OpE _ _ _ W K
      exact OpE.known (j := 1) (v := pv g_12 0) (hF 1 (hP.1 rfl)) (OpE.load (g := g_12) (off := 0) (v := iv x0) rfl (by kernel_rfl) ((show SH [] w W [pt g_12 ⟨(qStO_3 x0 x1 x2 x3 x4 x5 x6 x7 x8 x9 x10 x11) ++ pad_14⟩ 3, pt g_1 (cvA c.clean) 45, pt g_4 czA 45, pt g_18 (nmA c.clean.clean) 3] from hfr_31 W [] [] hB.upd rfl (by simp)).pt_at (i := 0) rfl) (by kernel_rfl) (hK _ W (hB.step (by decide) (Gr.refl W)) rfl (fun _ _ h => h)))
    · intro L ys W hC hn hB hF hP K hK
      show OpE _ _ _ W K
      exact OpE.val (sv g_12 0 12 c_13) W (by kernel_rfl) (hK _ W (hB.step (by decide) (Gr.refl W)) rfl (fun _ _ h => h))
    · intro L ys W hC hn hB hF hP K hK
      show OpE _ _ _ W K
      exact OpE.known (j := 3) (v := sv g_12 0 12 c_13) (hF 3 (hP.1 rfl)) (OpE.val (pv g_12 1) W (by kernel_rfl) (hK _ W (hB.step (by decide) (Gr.refl W)) rfl (fun _ _ h => h)))
    · intro L ys W hC hn hB hF hP K hK
      show OpE _ _ _ W K
      exact OpE.known (j := 4) (v := pv g_12 1) (hF 4 (hP.1 rfl)) (OpE.load (g := g_12) (off := 1) (v := iv x1) rfl (by kernel_rfl) ((show SH [] w W [pt g_12 ⟨(qStO_3 x0 x1 x2 x3 x4 x5 x6 x7 x8 x9 x10 x11) ++ pad_14⟩ 3, pt g_1 (cvA c.clean) 45, pt g_4 czA 45, pt g_18 (nmA c.clean.clean) 3] from hfr_31 W [] [] hB.upd rfl (by simp)).pt_at (i := 0) rfl) (by kernel_rfl) (hK _ W (hB.step (by decide) (Gr.refl W)) rfl (fun _ _ h => h)))
    · intro L ys W hC hn hB hF hP K hK
      show OpE _ _ _ W K
      exact OpE.known (j := 5) (v := iv x1) (hF 5 (hP.1 rfl)) (OpE.val (.bool (!(x1 == 0))) W (by kernel_rfl) (hK _ W (hB.step (by decide) (Gr.refl W)) rfl (fun _ _ h => h)))
    · intro L ys W hC hn hB hF hP K hK
      show OpE _ _ _ W K
      exact OpE.val (sv g_12 0 12 c_13) W (by kernel_rfl) (hK _ W (hB.step (by decide) (Gr.refl W)) rfl (fun _ _ h => h))
    · intro L ys W hC hn hB hF hP K hK
      show OpE _ _ _ W K
      exact OpE.known (j := 7) (v := sv g_12 0 12 c_13) (hF 7 (hP.1 rfl)) (OpE.val (pv g_12 2) W (by kernel_rfl) (hK _ W (hB.step (by decide) (Gr.refl W)) rfl (fun _ _ h => h)))
    · intro L ys W hC hn hB hF hP K hK
      show OpE _ _ _ W K
      exact OpE.known (j := 8) (v := pv g_12 2) (hF 8 (hP.1 rfl)) (OpE.load (g := g_12) (off := 2) (v := iv x2) rfl (by kernel_rfl) ((show SH [] w W [pt g_12 ⟨(qStO_3 x0 x1 x2 x3 x4 x5 x6 x7 x8 x9 x10 x11) ++ pad_14⟩ 3, pt g_1 (cvA c.clean) 45, pt g_4 czA 45, pt g_18 (nmA c.clean.clean) 3] from hfr_31 W [] [] hB.upd rfl (by simp)).pt_at (i := 0) rfl) (by kernel_rfl) (hK _ W (hB.step (by decide) (Gr.refl W)) rfl (fun _ _ h => h)))
    · intro L ys W hC hn hB hF hP K hK
      show OpE _ _ _ W K
      exact OpE.known (j := 9) (v := iv x2) (hF 9 (hP.1 rfl)) (OpE.val (iv (x2 * 4096)) W (by have hw : IntKind.i64.wrap (x2 * 4096) = x2 * 4096 := IntWalk.i64_in _ (by omega); exact run_eqv (by kernel_rfl) (congrArg (fun z => Value.int .i64 z) hw)) (hK _ W (hB.step (by decide) (Gr.refl W)) rfl (fun _ _ h => h)))
    · intro L ys W hC hn hB hF hP K hK
      show OpE _ _ _ W K
      exact OpE.val (sv g_12 0 12 c_13) W (by kernel_rfl) (hK _ W (hB.step (by decide) (Gr.refl W)) rfl (fun _ _ h => h))
    · intro L ys W hC hn hB hF hP K hK
      show OpE _ _ _ W K
      exact OpE.known (j := 11) (v := sv g_12 0 12 c_13) (hF 11 (hP.1 rfl)) (OpE.val (pv g_12 3) W (by kernel_rfl) (hK _ W (hB.step (by decide) (Gr.refl W)) rfl (fun _ _ h => h)))
    · intro L ys W hC hn hB hF hP K hK
      show OpE _ _ _ W K
      exact OpE.known (j := 12) (v := pv g_12 3) (hF 12 (hP.1 rfl)) (OpE.load (g := g_12) (off := 3) (v := iv x3) rfl (by kernel_rfl) ((show SH [] w W [pt g_12 ⟨(qStO_3 x0 x1 x2 x3 x4 x5 x6 x7 x8 x9 x10 x11) ++ pad_14⟩ 3, pt g_1 (cvA c.clean) 45, pt g_4 czA 45, pt g_18 (nmA c.clean.clean) 3] from hfr_31 W [] [] hB.upd rfl (by simp)).pt_at (i := 0) rfl) (by kernel_rfl) (hK _ W (hB.step (by decide) (Gr.refl W)) rfl (fun _ _ h => h)))
    · intro L ys W hC hn hB hF hP K hK
      show OpE _ _ _ W K
      exact OpE.known (j := 10) (v := iv (x2 * 4096)) (hF 10 (hP.1 rfl)) (OpE.known (j := 13) (v := iv x3) (hF 13 (hP.2.1 rfl)) (OpE.val (iv ((x2 * 4096) + x3)) W (by have hw : IntKind.i64.wrap ((x2 * 4096) + x3) = (x2 * 4096) + x3 := IntWalk.i64_in _ (by omega); exact run_eqv (by kernel_rfl) (congrArg (fun z => Value.int .i64 z) hw)) (hK _ W (hB.step (by decide) (Gr.refl W)) rfl (fun _ _ h => h))))
    · intro L ys W hC hn hB hF hP K hK
      show OpE _ _ _ W K
      exact OpE.known (j := 14) (v := iv ((x2 * 4096) + x3)) (hF 14 (hP.1 rfl)) (OpE.val (.int .u32 ((x2 * 4096) + x3)) W (by have hw : IntKind.u32.wrap ((x2 * 4096) + x3) = (x2 * 4096) + x3 := wrap_u32 (by omega) (by omega); exact run_eqv (by kernel_rfl) (congrArg (fun z => Value.int .u32 z) hw)) (hK _ W (hB.step (by decide) (Gr.refl W)) rfl (fun _ _ h => h)))
    · intro L ys W hC hn hB hF hP K hK
      show OpE _ _ _ W K
      exact OpE.val (pv g_24 22) W (by kernel_rfl) (hK _ W (hB.step (by decide) (Gr.refl W)) rfl (fun _ _ h => h))
    · intro L ys W hC hn hB hF hP K hK
      show OpE _ _ _ W K
      have hst := hB.at_ (k := 0) (P := [pt g_24 (cvA c.clean) 45]) rfl (by decide) rfl prev_0 (next_at 17 rfl hn)
      obtain ⟨hq_, hu_⟩ := hst.setCells (i := 0) (g := g_24) (C := (cvA c.clean)) (T := 45) rfl 22 ((iv x0 : Value).cells.toList)
      exact OpE.known (j := 16) (v := pv g_24 22) (hF 16 (hP.1 rfl)) (OpE.known (j := 2) (v := iv x0) (hF 2 (hP.2.2.2.2.1 rfl)) (OpE.store (g := g_24) (off := 22) (C := (cvA c.clean)) (T := 45) (v := iv x0) rfl (by kernel_rfl) (by kernel_rfl) (hst.pt_at (i := 0) rfl) (by kernel_rfl) (by kernel_rfl) (by kernel_rfl) (hK _ _ (hB.done (k := 0) (P := [pt g_24 (cvA c.clean) 45]) (P' := [pt g_24 (qStO_1 c x0) 45]) rfl (by decide) rfl rfl rfl prev_0 hn hu_ hq_) trivial (fun _ _ h => FW.pureL HPU h))))
    · intro L ys W hC hn hB hF hP K hK
      show OpE _ _ _ W K
      exact OpE.val (pv g_24 23) W (by kernel_rfl) (hK _ W (hB.step (by decide) (Gr.refl W)) rfl (fun _ _ h => h))
    · intro L ys W hC hn hB hF hP K hK
      show OpE _ _ _ W K
      have hst := hB.at_ (k := 1) (P := [pt g_24 (qStO_1 c x0) 45]) rfl (by decide) rfl (prev_at (k := 0) 17 rfl (hP.2.2.2.2.2.2.2.2.2.2.2.2.2.2.2.2.2.2.2.2.1 rfl)) (next_at 19 rfl hn)
      obtain ⟨hq_, hu_⟩ := hst.setCells (i := 0) (g := g_24) (C := (qStO_1 c x0)) (T := 45) rfl 23 ((.bool (!(x1 == 0)) : Value).cells.toList)
      exact OpE.known (j := 18) (v := pv g_24 23) (hF 18 (hP.1 rfl)) (OpE.known (j := 6) (v := .bool (!(x1 == 0))) (hF 6 (hP.2.2.2.2.2.2.2.2.2.1 rfl)) (OpE.store (g := g_24) (off := 23) (C := (qStO_1 c x0)) (T := 45) (v := .bool (!(x1 == 0))) rfl (by kernel_rfl) (by kernel_rfl) (hst.pt_at (i := 0) rfl) (by kernel_rfl) (by kernel_rfl) (by kernel_rfl) (hK _ _ (hB.done (k := 1) (P := [pt g_24 (qStO_1 c x0) 45]) (P' := [pt g_24 (qStO_4 c x0 x1) 45]) rfl (by decide) rfl rfl rfl (prev_at (k := 0) 17 rfl (hP.2.2.2.2.2.2.2.2.2.2.2.2.2.2.2.2.2.2.2.2.1 rfl)) hn hu_ hq_) trivial (fun _ _ h => FW.pureL HPU h))))
  · intro ys_36 w_32 hb_33 hF_35
    have hst_ := hb_33.at_ (k := 2) (P := [pt g_24 (qStO_4 c x0 x1) 45]) rfl (by decide) rfl (prev_at (k := 1) 19 rfl (by decide)) (next_end rfl)
    have hs_34 : SH [] w w_32 [pt g_24 (qStO_4 c x0 x1) 45, pt g_12 ⟨(qStO_3 x0 x1 x2 x3 x4 x5 x6 x7 x8 x9 x10 x11) ++ pad_14⟩ 3, pt g_1 (cvA c.clean) 45, pt g_4 czA 45, pt g_18 (nmA c.clean.clean) 3] := hfr_31 w_32 _ fj_29 hb_33.upd hst_ (fun g hg => .inl hg)
    refine SL.knownY (j := 15) (v := .int .u32 ((x2 * 4096) + x3)) (show ys_36 15 = .int .u32 ((x2 * 4096) + x3) from hF_35 15 (by decide)) (?_)
    clear hF_35 HGR HPU hst_ hb_33 hfr_31 hpj_30
    refine SL.v (pv g_24 21) ?_
    refine SL.storeH (i := 0) (g := g_24) (off := 21) (v := .int .u32 ((x2 * 4096) + x3)) (L' := [pt g_24 (qStO_0 c x2 x3 x0 x1) 45, pt g_12 ⟨(qStO_3 x0 x1 x2 x3 x4 x5 x6 x7 x8 x9 x10 x11) ++ pad_14⟩ 3, pt g_1 (cvA c.clean) 45, pt g_4 czA 45, pt g_18 (nmA c.clean.clean) 3]) hs_34 rfl rfl rfl (by kernel_rfl) (by kernel_rfl) rfl (by kernel_rfl) (by kernel_rfl) rfl (by kernel_rfl) rfl (fun w_37 hs_38 => ?_)
    refine SL.nil ?_
    refine CW.seq ?_
    obtain ⟨fj_39, hpj_40, hfr_41⟩ := hs_38.frame (Pre := [pt g_24 (qStO_0 c x2 x3 x0 x1) 45]) (Rest := [pt g_12 ⟨(qStO_3 x0 x1 x2 x3 x4 x5 x6 x7 x8 x9 x10 x11) ++ pad_14⟩ 3, pt g_1 (cvA c.clean) 45, pt g_4 czA 45, pt g_18 (nmA c.clean.clean) 3]) [0] rfl
    have HGR : GrL [fun v _ => v = sv g_12 0 12 c_13, fun v _ => v = pv g_12 4, fun v _ => v = iv x4, fun v _ => v = .bool (!(x4 == 0)), fun v _ => v = sv g_12 0 12 c_13, fun v _ => v = pv g_12 5, fun v _ => v = iv x5, fun v _ => v = sv g_12 0 12 c_13, fun v _ => v = pv g_12 6, fun v _ => v = iv x6, fun v _ => v = .bool (!(x6 == 0)), fun v _ => v = pv g_24 24, fun _ _ => True, fun v _ => v = pv g_24 25, fun _ _ => True] := ⟨fun _ _ _ _ h => h, ⟨fun _ _ _ _ h => h, ⟨fun _ _ _ _ h => h, ⟨fun _ _ _ _ h => h, ⟨fun _ _ _ _ h => h, ⟨fun _ _ _ _ h => h, ⟨fun _ _ _ _ h => h, ⟨fun _ _ _ _ h => h, ⟨fun _ _ _ _ h => h, ⟨fun _ _ _ _ h => h, ⟨fun _ _ _ _ h => h, ⟨fun _ _ _ _ h => h, ⟨fun _ _ _ _ h => h, ⟨fun _ _ _ _ h => h, ⟨fun _ _ _ _ h => h, trivial⟩⟩⟩⟩⟩⟩⟩⟩⟩⟩⟩⟩⟩⟩⟩
    have HPU : PureL [fun v _ => v = sv g_12 0 12 c_13, fun v _ => v = pv g_12 4, fun v _ => v = iv x4, fun v _ => v = .bool (!(x4 == 0)), fun v _ => v = sv g_12 0 12 c_13, fun v _ => v = pv g_12 5, fun v _ => v = iv x5, fun v _ => v = sv g_12 0 12 c_13, fun v _ => v = pv g_12 6, fun v _ => v = iv x6, fun v _ => v = .bool (!(x6 == 0)), fun v _ => v = pv g_24 24, fun _ _ => True, fun v _ => v = pv g_24 25, fun _ _ => True] := ⟨fun _ _ _ h => h, ⟨fun _ _ _ h => h, ⟨fun _ _ _ h => h, ⟨fun _ _ _ h => h, ⟨fun _ _ _ h => h, ⟨fun _ _ _ h => h, ⟨fun _ _ _ h => h, ⟨fun _ _ _ h => h, ⟨fun _ _ _ h => h, ⟨fun _ _ _ h => h, ⟨fun _ _ _ h => h, ⟨fun _ _ _ h => h, ⟨fun _ _ _ h => h, ⟨fun _ _ _ h => h, ⟨fun _ _ _ h => h, trivial⟩⟩⟩⟩⟩⟩⟩⟩⟩⟩⟩⟩⟩⟩⟩
    refine CW.drawG 15 (FW [fun v _ => v = sv g_12 0 12 c_13, fun v _ => v = pv g_12 4, fun v _ => v = iv x4, fun v _ => v = .bool (!(x4 == 0)), fun v _ => v = sv g_12 0 12 c_13, fun v _ => v = pv g_12 5, fun v _ => v = iv x5, fun v _ => v = sv g_12 0 12 c_13, fun v _ => v = pv g_12 6, fun v _ => v = iv x6, fun v _ => v = .bool (!(x6 == 0)), fun v _ => v = pv g_24 24, fun _ _ => True, fun v _ => v = pv g_24 25, fun _ _ => True]) (BaseS [12, 14] fj_39 w_37 [[pt g_24 (qStO_0 c x2 x3 x0 x1) 45], [pt g_24 (qStO_2 c x2 x3 x0 x1 x4) 45], [pt g_24 (qStO_5 c x2 x3 x0 x1 x4 x5) 45]]) (by kernel_rfl) (by kernel_rfl) (by kernel_rfl) (by kernel_rfl) (by kernel_rfl) (BaseS.init hpj_40) ?_ ?_
    · refine ⟨?_, ⟨?_, ⟨?_, ⟨?_, ⟨?_, ⟨?_, ⟨?_, ⟨?_, ⟨?_, ⟨?_, ⟨?_, ⟨?_, ⟨?_, ⟨?_, ⟨?_, trivial⟩⟩⟩⟩⟩⟩⟩⟩⟩⟩⟩⟩⟩⟩⟩
      · intro L ys W hC hn hB hF hP K hK
        show OpE _ _ _ W K
        exact OpE.val (sv g_12 0 12 c_13) W (by kernel_rfl) (hK _ W (hB.step (by decide) (Gr.refl W)) rfl (fun _ _ h => h))
      · intro L ys W hC hn hB hF hP K hK
        show OpE _ _ _ W K
        exact OpE.known (j := 0) (v := sv g_12 0 12 c_13) (hF 0 (hP.1 rfl)) (OpE.val (pv g_12 4) W (by kernel_rfl) (hK _ W (hB.step (by decide) (Gr.refl W)) rfl (fun _ _ h => h)))
      · intro L ys W hC hn hB hF hP K hK
        show OpE _ _ _ W K
        exact OpE.known (j := 1) (v := pv g_12 4) (hF 1 (hP.1 rfl)) (OpE.load (g := g_12) (off := 4) (v := iv x4) rfl (by kernel_rfl) ((show SH [] w W [pt g_12 ⟨(qStO_3 x0 x1 x2 x3 x4 x5 x6 x7 x8 x9 x10 x11) ++ pad_14⟩ 3, pt g_1 (cvA c.clean) 45, pt g_4 czA 45, pt g_18 (nmA c.clean.clean) 3] from hfr_41 W [] [] hB.upd rfl (by simp)).pt_at (i := 0) rfl) (by kernel_rfl) (hK _ W (hB.step (by decide) (Gr.refl W)) rfl (fun _ _ h => h)))
      · intro L ys W hC hn hB hF hP K hK
        show OpE _ _ _ W K
        exact OpE.known (j := 2) (v := iv x4) (hF 2 (hP.1 rfl)) (OpE.val (.bool (!(x4 == 0))) W (by kernel_rfl) (hK _ W (hB.step (by decide) (Gr.refl W)) rfl (fun _ _ h => h)))
      · intro L ys W hC hn hB hF hP K hK
        show OpE _ _ _ W K
        exact OpE.val (sv g_12 0 12 c_13) W (by kernel_rfl) (hK _ W (hB.step (by decide) (Gr.refl W)) rfl (fun _ _ h => h))
      · intro L ys W hC hn hB hF hP K hK
        show OpE _ _ _ W K
        exact OpE.known (j := 4) (v := sv g_12 0 12 c_13) (hF 4 (hP.1 rfl)) (OpE.val (pv g_12 5) W (by kernel_rfl) (hK _ W (hB.step (by decide) (Gr.refl W)) rfl (fun _ _ h => h)))
      · intro L ys W hC hn hB hF hP K hK
        show OpE _ _ _ W K
        exact OpE.known (j := 5) (v := pv g_12 5) (hF 5 (hP.1 rfl)) (OpE.load (g := g_12) (off := 5) (v := iv x5) rfl (by kernel_rfl) ((show SH [] w W [pt g_12 ⟨(qStO_3 x0 x1 x2 x3 x4 x5 x6 x7 x8 x9 x10 x11) ++ pad_14⟩ 3, pt g_1 (cvA c.clean) 45, pt g_4 czA 45, pt g_18 (nmA c.clean.clean) 3] from hfr_41 W [] [] hB.upd rfl (by simp)).pt_at (i := 0) rfl) (by kernel_rfl) (hK _ W (hB.step (by decide) (Gr.refl W)) rfl (fun _ _ h => h)))
      · intro L ys W hC hn hB hF hP K hK
        show OpE _ _ _ W K
        exact OpE.val (sv g_12 0 12 c_13) W (by kernel_rfl) (hK _ W (hB.step (by decide) (Gr.refl W)) rfl (fun _ _ h => h))
      · intro L ys W hC hn hB hF hP K hK
        show OpE _ _ _ W K
        exact OpE.known (j := 7) (v := sv g_12 0 12 c_13) (hF 7 (hP.1 rfl)) (OpE.val (pv g_12 6) W (by kernel_rfl) (hK _ W (hB.step (by decide) (Gr.refl W)) rfl (fun _ _ h => h)))
      · intro L ys W hC hn hB hF hP K hK
        show OpE _ _ _ W K
        exact OpE.known (j := 8) (v := pv g_12 6) (hF 8 (hP.1 rfl)) (OpE.load (g := g_12) (off := 6) (v := iv x6) rfl (by kernel_rfl) ((show SH [] w W [pt g_12 ⟨(qStO_3 x0 x1 x2 x3 x4 x5 x6 x7 x8 x9 x10 x11) ++ pad_14⟩ 3, pt g_1 (cvA c.clean) 45, pt g_4 czA 45, pt g_18 (nmA c.clean.clean) 3] from hfr_41 W [] [] hB.upd rfl (by simp)).pt_at (i := 0) rfl) (by kernel_rfl) (hK _ W (hB.step (by decide) (Gr.refl W)) rfl (fun _ _ h => h)))
      · intro L ys W hC hn hB hF hP K hK
        show OpE _ _ _ W K
        exact OpE.known (j := 9) (v := iv x6) (hF 9 (hP.1 rfl)) (OpE.val (.bool (!(x6 == 0))) W (by kernel_rfl) (hK _ W (hB.step (by decide) (Gr.refl W)) rfl (fun _ _ h => h)))
      · intro L ys W hC hn hB hF hP K hK
        show OpE _ _ _ W K
        exact OpE.val (pv g_24 24) W (by kernel_rfl) (hK _ W (hB.step (by decide) (Gr.refl W)) rfl (fun _ _ h => h))
      · intro L ys W hC hn hB hF hP K hK
        show OpE _ _ _ W K
        have hst := hB.at_ (k := 0) (P := [pt g_24 (qStO_0 c x2 x3 x0 x1) 45]) rfl (by decide) rfl prev_0 (next_at 12 rfl hn)
        obtain ⟨hq_, hu_⟩ := hst.setCells (i := 0) (g := g_24) (C := (qStO_0 c x2 x3 x0 x1)) (T := 45) rfl 24 ((.bool (!(x4 == 0)) : Value).cells.toList)
        exact OpE.known (j := 11) (v := pv g_24 24) (hF 11 (hP.1 rfl)) (OpE.known (j := 3) (v := .bool (!(x4 == 0))) (hF 3 (hP.2.2.2.2.2.1 rfl)) (OpE.store (g := g_24) (off := 24) (C := (qStO_0 c x2 x3 x0 x1)) (T := 45) (v := .bool (!(x4 == 0))) rfl (by kernel_rfl) (by kernel_rfl) (hst.pt_at (i := 0) rfl) (by kernel_rfl) (by kernel_rfl) (by kernel_rfl) (hK _ _ (hB.done (k := 0) (P := [pt g_24 (qStO_0 c x2 x3 x0 x1) 45]) (P' := [pt g_24 (qStO_2 c x2 x3 x0 x1 x4) 45]) rfl (by decide) rfl rfl rfl prev_0 hn hu_ hq_) trivial (fun _ _ h => FW.pureL HPU h))))
      · intro L ys W hC hn hB hF hP K hK
        show OpE _ _ _ W K
        exact OpE.val (pv g_24 25) W (by kernel_rfl) (hK _ W (hB.step (by decide) (Gr.refl W)) rfl (fun _ _ h => h))
      · intro L ys W hC hn hB hF hP K hK
        show OpE _ _ _ W K
        have hst := hB.at_ (k := 1) (P := [pt g_24 (qStO_2 c x2 x3 x0 x1 x4) 45]) rfl (by decide) rfl (prev_at (k := 0) 12 rfl (hP.2.2.2.2.2.2.2.2.2.2.2.2.2.2.2.1 rfl)) (next_at 14 rfl hn)
        obtain ⟨hq_, hu_⟩ := hst.setCells (i := 0) (g := g_24) (C := (qStO_2 c x2 x3 x0 x1 x4)) (T := 45) rfl 25 ((iv x5 : Value).cells.toList)
        exact OpE.known (j := 13) (v := pv g_24 25) (hF 13 (hP.1 rfl)) (OpE.known (j := 6) (v := iv x5) (hF 6 (hP.2.2.2.2.2.2.2.2.2.1 rfl)) (OpE.store (g := g_24) (off := 25) (C := (qStO_2 c x2 x3 x0 x1 x4)) (T := 45) (v := iv x5) rfl (by kernel_rfl) (by kernel_rfl) (hst.pt_at (i := 0) rfl) (by kernel_rfl) (by kernel_rfl) (by kernel_rfl) (hK _ _ (hB.done (k := 1) (P := [pt g_24 (qStO_2 c x2 x3 x0 x1 x4) 45]) (P' := [pt g_24 (qStO_5 c x2 x3 x0 x1 x4 x5) 45]) rfl (by decide) rfl rfl rfl (prev_at (k := 0) 12 rfl (hP.2.2.2.2.2.2.2.2.2.2.2.2.2.2.2.1 rfl)) hn hu_ hq_) trivial (fun _ _ h => FW.pureL HPU h))))
    · intro ys_46 w_42 hb_43 hF_45
      have hst_ := hb_43.at_ (k := 2) (P := [pt g_24 (qStO_5 c x2 x3 x0 x1 x4 x5) 45]) rfl (by decide) rfl (prev_at (k := 1) 14 rfl (by decide)) (next_end rfl)
      have hs_44 : SH [] w w_42 [pt g_24 (qStO_5 c x2 x3 x0 x1 x4 x5) 45, pt g_12 ⟨(qStO_3 x0 x1 x2 x3 x4 x5 x6 x7 x8 x9 x10 x11) ++ pad_14⟩ 3, pt g_1 (cvA c.clean) 45, pt g_4 czA 45, pt g_18 (nmA c.clean.clean) 3] := hfr_41 w_42 _ fj_39 hb_43.upd hst_ (fun g hg => .inl hg)
      refine SL.knownY (j := 10) (v := .bool (!(x6 == 0))) (show ys_46 10 = .bool (!(x6 == 0)) from hF_45 10 (by decide)) (?_)
      clear hF_45 HGR HPU hst_ hb_43 hfr_41 hpj_40
      refine SL.v (pv g_24 26) ?_
      refine SL.storeH (i := 0) (g := g_24) (off := 26) (v := .bool (!(x6 == 0))) (L' := [pt g_24 #[iv c.clean.row, iv c.clean.col, .int .u8 c.clean.rend, .bool c.clean.kept, .bool c.clean.wrap, .bool c.clean.origin, iv c.clean.g0, iv c.clean.g1, iv c.clean.g2, iv c.clean.g3, iv c.clean.gl, iv c.clean.gr, iv c.clean.sg, iv c.clean.pt, iv c.clean.pl, iv c.clean.pb, iv c.clean.pr, iv c.clean.mt, iv c.clean.ml, iv c.clean.mb, iv c.clean.mr, .int .u32 ((x2 * 4096) + x3), iv x0, .bool (!(x1 == 0)), .bool (!(x4 == 0)), iv x5, .bool (!(x6 == 0)), iv c.clean.page, iv c.clean.pages] 45, pt g_12 ⟨(qStO_3 x0 x1 x2 x3 x4 x5 x6 x7 x8 x9 x10 x11) ++ pad_14⟩ 3, pt g_1 (cvA c.clean) 45, pt g_4 czA 45, pt g_18 (nmA c.clean.clean) 3]) hs_44 rfl rfl rfl (by kernel_rfl) (by kernel_rfl) rfl (by kernel_rfl) (by kernel_rfl) rfl (by kernel_rfl) rfl (fun w_47 hs_48 => ?_)
      refine SL.nil ?_
      refine CW.seq ?_
      have HGR : GrL [fun v _ => v = sv g_12 0 12 c_13, fun v _ => v = pv g_12 7, fun v _ => v = iv x7, fun v _ => v = sv g_12 0 12 c_13, fun v _ => v = pv g_12 8, fun v _ => v = iv x8, fun v _ => v = sv g_12 0 12 c_13, fun v _ => v = pv g_12 9, fun v _ => v = iv x9, fun v _ => v = sv g_12 0 12 c_13, fun v _ => v = pv g_12 10, fun v _ => v = iv x10] := ⟨fun _ _ _ _ h => h, ⟨fun _ _ _ _ h => h, ⟨fun _ _ _ _ h => h, ⟨fun _ _ _ _ h => h, ⟨fun _ _ _ _ h => h, ⟨fun _ _ _ _ h => h, ⟨fun _ _ _ _ h => h, ⟨fun _ _ _ _ h => h, ⟨fun _ _ _ _ h => h, ⟨fun _ _ _ _ h => h, ⟨fun _ _ _ _ h => h, ⟨fun _ _ _ _ h => h, trivial⟩⟩⟩⟩⟩⟩⟩⟩⟩⟩⟩⟩
      refine CW.draw 12 (FW [fun v _ => v = sv g_12 0 12 c_13, fun v _ => v = pv g_12 7, fun v _ => v = iv x7, fun v _ => v = sv g_12 0 12 c_13, fun v _ => v = pv g_12 8, fun v _ => v = iv x8, fun v _ => v = sv g_12 0 12 c_13, fun v _ => v = pv g_12 9, fun v _ => v = iv x9, fun v _ => v = sv g_12 0 12 c_13, fun v _ => v = pv g_12 10, fun v _ => v = iv x10]) (fun W => Gr w_47 W) (by kernel_rfl) (by kernel_rfl) (by kernel_rfl) (by kernel_rfl) (by kernel_rfl) (Gr.refl _).drew ?_ ?_
      · refine ⟨?_, ⟨?_, ⟨?_, ⟨?_, ⟨?_, ⟨?_, ⟨?_, ⟨?_, ⟨?_, ⟨?_, ⟨?_, ⟨?_, trivial⟩⟩⟩⟩⟩⟩⟩⟩⟩⟩⟩⟩
        · intro L ys W hB hF hP K hK
          show OpE _ _ _ W K
          exact OpE.val (sv g_12 0 12 c_13) W (by kernel_rfl) (hK _ W hB rfl (fun _ _ h => h))
        · intro L ys W hB hF hP K hK
          show OpE _ _ _ W K
          exact OpE.known (j := 0) (v := sv g_12 0 12 c_13) (hF 0 (hP.1 rfl)) (OpE.val (pv g_12 7) W (by kernel_rfl) (hK _ W hB rfl (fun _ _ h => h)))
        · intro L ys W hB hF hP K hK
          show OpE _ _ _ W K
          exact OpE.known (j := 1) (v := pv g_12 7) (hF 1 (hP.1 rfl)) (OpE.load (g := g_12) (off := 7) (v := iv x7) rfl (by kernel_rfl) ((hs_48.grow hB).pt_at (i := 1) rfl) (by kernel_rfl) (hK _ W hB rfl (fun _ _ h => h)))
        · intro L ys W hB hF hP K hK
          show OpE _ _ _ W K
          exact OpE.val (sv g_12 0 12 c_13) W (by kernel_rfl) (hK _ W hB rfl (fun _ _ h => h))
        · intro L ys W hB hF hP K hK
          show OpE _ _ _ W K
          exact OpE.known (j := 3) (v := sv g_12 0 12 c_13) (hF 3 (hP.1 rfl)) (OpE.val (pv g_12 8) W (by kernel_rfl) (hK _ W hB rfl (fun _ _ h => h)))
        · intro L ys W hB hF hP K hK
          show OpE _ _ _ W K
          exact OpE.known (j := 4) (v := pv g_12 8) (hF 4 (hP.1 rfl)) (OpE.load (g := g_12) (off := 8) (v := iv x8) rfl (by kernel_rfl) ((hs_48.grow hB).pt_at (i := 1) rfl) (by kernel_rfl) (hK _ W hB rfl (fun _ _ h => h)))
        · intro L ys W hB hF hP K hK
          show OpE _ _ _ W K
          exact OpE.val (sv g_12 0 12 c_13) W (by kernel_rfl) (hK _ W hB rfl (fun _ _ h => h))
        · intro L ys W hB hF hP K hK
          show OpE _ _ _ W K
          exact OpE.known (j := 6) (v := sv g_12 0 12 c_13) (hF 6 (hP.1 rfl)) (OpE.val (pv g_12 9) W (by kernel_rfl) (hK _ W hB rfl (fun _ _ h => h)))
        · intro L ys W hB hF hP K hK
          show OpE _ _ _ W K
          exact OpE.known (j := 7) (v := pv g_12 9) (hF 7 (hP.1 rfl)) (OpE.load (g := g_12) (off := 9) (v := iv x9) rfl (by kernel_rfl) ((hs_48.grow hB).pt_at (i := 1) rfl) (by kernel_rfl) (hK _ W hB rfl (fun _ _ h => h)))
        · intro L ys W hB hF hP K hK
          show OpE _ _ _ W K
          exact OpE.val (sv g_12 0 12 c_13) W (by kernel_rfl) (hK _ W hB rfl (fun _ _ h => h))
        · intro L ys W hB hF hP K hK
          show OpE _ _ _ W K
          exact OpE.known (j := 9) (v := sv g_12 0 12 c_13) (hF 9 (hP.1 rfl)) (OpE.val (pv g_12 10) W (by kernel_rfl) (hK _ W hB rfl (fun _ _ h => h)))
        · intro L ys W hB hF hP K hK
          show OpE _ _ _ W K
          exact OpE.known (j := 10) (v := pv g_12 10) (hF 10 (hP.1 rfl)) (OpE.load (g := g_12) (off := 10) (v := iv x10) rfl (by kernel_rfl) ((hs_48.grow hB).pt_at (i := 1) rfl) (by kernel_rfl) (hK _ W hB rfl (fun _ _ h => h)))
      · intro ys_52 w_49 hs_50 hF_51
        have hg_53 := hs_50
        have hs_50 : SH [] w w_49 [pt g_24 #[iv c.clean.row, iv c.clean.col, .int .u8 c.clean.rend, .bool c.clean.kept, .bool c.clean.wrap, .bool c.clean.origin, iv c.clean.g0, iv c.clean.g1, iv c.clean.g2, iv c.clean.g3, iv c.clean.gl, iv c.clean.gr, iv c.clean.sg, iv c.clean.pt, iv c.clean.pl, iv c.clean.pb, iv c.clean.pr, iv c.clean.mt, iv c.clean.ml, iv c.clean.mb, iv c.clean.mr, .int .u32 ((x2 * 4096) + x3), iv x0, .bool (!(x1 == 0)), .bool (!(x4 == 0)), iv x5, .bool (!(x6 == 0)), iv c.clean.page, iv c.clean.pages] 45, pt g_12 ⟨(qStO_3 x0 x1 x2 x3 x4 x5 x6 x7 x8 x9 x10 x11) ++ pad_14⟩ 3, pt g_1 (cvA c.clean) 45, pt g_4 czA 45, pt g_18 (nmA c.clean.clean) 3] := hs_48.grow hg_53
        refine SL.knownY (j := 2) (v := iv x7) (show ys_52 2 = iv x7 from hF_51 2 (by decide)) (SL.knownY (j := 5) (v := iv x8) (show ys_52 5 = iv x8 from hF_51 5 (by decide)) (SL.knownY (j := 8) (v := iv x9) (show ys_52 8 = iv x9 from hF_51 8 (by decide)) (SL.knownY (j := 11) (v := iv x10) (show ys_52 11 = iv x10 from hF_51 11 (by decide)) (?_))))
        clear hF_51 HGR
        refine SL.v (.agg #[iv x7, iv x8, iv x9, iv x10]) ?_
        refine SL.v (pv g_24 13) ?_
        refine SL.v (pv g_24 17) ?_
        refine SL.storeH (i := 0) (g := g_24) (off := 17) (v := .agg #[iv x7, iv x8, iv x9, iv x10]) (L' := [pt g_24 #[iv c.clean.row, iv c.clean.col, .int .u8 c.clean.rend, .bool c.clean.kept, .bool c.clean.wrap, .bool c.clean.origin, iv c.clean.g0, iv c.clean.g1, iv c.clean.g2, iv c.clean.g3, iv c.clean.gl, iv c.clean.gr, iv c.clean.sg, iv c.clean.pt, iv c.clean.pl, iv c.clean.pb, iv c.clean.pr, iv x7, iv x8, iv x9, iv x10, .int .u32 ((x2 * 4096) + x3), iv x0, .bool (!(x1 == 0)), .bool (!(x4 == 0)), iv x5, .bool (!(x6 == 0)), iv c.clean.page, iv c.clean.pages] 45, pt g_12 ⟨(qStO_3 x0 x1 x2 x3 x4 x5 x6 x7 x8 x9 x10 x11) ++ pad_14⟩ 3, pt g_1 (cvA c.clean) 45, pt g_4 czA 45, pt g_18 (nmA c.clean.clean) 3]) hs_50 rfl rfl rfl (by kernel_rfl) (by kernel_rfl) rfl (by kernel_rfl) (by kernel_rfl) rfl (by kernel_rfl) rfl (fun w_54 hs_55 => ?_)
        refine SL.nil ?_
        refine CW.seq ?_
        refine CW.region ?_
        refine SL.v (sv g_12 0 12 c_13) ?_
        refine SL.v (pv g_12 11) ?_
        refine SL.load (g := g_12) (off := 11) (v := iv x11) rfl rfl rfl (by kernel_rfl) (hs_55.pt_at (i := 1) rfl) (by kernel_rfl) ?_
        refine SL.v (.bool (!(x11 == 0))) ?_
        refine SL.v (pv g_24 0) ?_
        refine SL.v (pv g_24 5) ?_
        refine SL.storeH (i := 0) (g := g_24) (off := 5) (v := .bool (!(x11 == 0))) (L' := [pt g_24 (qStO_6 c x11 x7 x8 x9 x10 x2 x3 x0 x1 x4 x5 x6) 45, pt g_12 ⟨(qStO_3 x0 x1 x2 x3 x4 x5 x6 x7 x8 x9 x10 x11) ++ pad_14⟩ 3, pt g_1 (cvA c.clean) 45, pt g_4 czA 45, pt g_18 (nmA c.clean.clean) 3]) hs_55 rfl rfl rfl (by kernel_rfl) (by kernel_rfl) rfl (by kernel_rfl) (by kernel_rfl) rfl (by kernel_rfl) rfl (fun w_56 hs_57 => ?_)
        refine SL.nil ?_
        refine CW.seq ?_
        refine CW.region ?_
        refine SL.load (g := g_24) (off := 0) (v := .agg (qStO_6 c x11 x7 x8 x9 x10 x2 x3 x0 x1 x4 x5 x6)) rfl rfl rfl (by kernel_rfl) (hs_57.pt_at (i := 0) rfl) (by kernel_rfl) ?_
        refine SL.call (f := 20) (args := #[.agg (qStO_6 c x11 x7 x8 x9 x10 x2 x3 x0 x1 x4 x5 x6)]) (w1 := w_56) rfl rfl (by kernel_rfl) (clean_any (rcor c x0 x1 x2 x3 x4 x5 x6 x7 x8 x9 x10 x11) w_56 hrk) ?_
        rintro x w_58 ⟨rfl, hc_59⟩
        refine ⟨_, rfl, ?_⟩
        have hs_60 := hs_57.grow hc_59
        refine SL.storeH (i := 0) (g := g_24) (off := 0) (v := .agg (cvA ((rcor c x0 x1 x2 x3 x4 x5 x6 x7 x8 x9 x10 x11).clean))) (L' := [pt g_24 (cvA ((rcor c x0 x1 x2 x3 x4 x5 x6 x7 x8 x9 x10 x11).clean)) 45, pt g_12 ⟨(qStO_3 x0 x1 x2 x3 x4 x5 x6 x7 x8 x9 x10 x11) ++ pad_14⟩ 3, pt g_1 (cvA c.clean) 45, pt g_4 czA 45, pt g_18 (nmA c.clean.clean) 3]) hs_60 rfl rfl rfl (by kernel_rfl) (by kernel_rfl) rfl (by kernel_rfl) (by kernel_rfl) rfl (by kernel_rfl) rfl (fun w_61 hs_62 => ?_)
        refine SL.nil ?_
        refine CW.seq ?_
        refine CW.seq ?_
        refine CW.region ?_
        refine SL.load (g := g_24) (off := 0) (v := .agg (cvA ((rcor c x0 x1 x2 x3 x4 x5 x6 x7 x8 x9 x10 x11).clean))) rfl rfl rfl (by kernel_rfl) (hs_62.pt_at (i := 0) rfl) (by kernel_rfl) ?_
        refine SL.call (f := 47) (args := #[.agg (cvA ((rcor c x0 x1 x2 x3 x4 x5 x6 x7 x8 x9 x10 x11).clean))]) (w1 := w_61) rfl rfl (by kernel_rfl) (nums_any (rcor c x0 x1 x2 x3 x4 x5 x6 x7 x8 x9 x10 x11).clean w_61 hrk.clean) ?_
        rintro x w_64 ⟨g_63, rfl, hb_67, hge_68, hc_65⟩
        refine ⟨_, rfl, ?_⟩
        have hs_66 := hs_62.fresh hc_65 hb_67 hge_68
        have hs_66 : SH [] w w_64 [pt g_24 (cvA ((rcor c x0 x1 x2 x3 x4 x5 x6 x7 x8 x9 x10 x11).clean)) 45, pt g_12 ⟨(qStO_3 x0 x1 x2 x3 x4 x5 x6 x7 x8 x9 x10 x11) ++ pad_14⟩ 3, pt g_1 (cvA c.clean) 45, pt g_4 czA 45, pt g_18 (nmA c.clean.clean) 3, pt g_63 (nmA ((rcor c x0 x1 x2 x3 x4 x5 x6 x7 x8 x9 x10 x11).clean.clean)) 3] := hs_66
        refine SL.v (sv g_12 0 12 c_13) ?_
        refine SL.call (f := 48) (args := #[sv g_63 0 12 12, sv g_12 0 12 c_13]) (w1 := w_64) rfl rfl (by kernel_rfl) (sleq_any (rcor c x0 x1 x2 x3 x4 x5 x6 x7 x8 x9 x10 x11).clean.clean.nums [x0, x1, x2, x3, x4, x5, x6, x7, x8, x9, x10, x11] g_63 g_12 12 c_13 [] pad_14 w_64 (hs_66.pt_at (i := 5) rfl) (hs_66.pt_at (i := 1) rfl) (Nat.le_of_ble_eq_true rfl)) ?_
        rintro x w_69 ⟨rfl, hc_70⟩
        refine ⟨_, rfl, ?_⟩
        have hs_71 := hs_66.grow hc_70
        refine SL.v (.bool (!(decide ((rcor c x0 x1 x2 x3 x4 x5 x6 x7 x8 x9 x10 x11).clean.clean.nums = [x0, x1, x2, x3, x4, x5, x6, x7, x8, x9, x10, x11])))) ?_
        refine SL.nil ?_
        rcases Bool.eq_false_or_eq_true (decide ((rcor c x0 x1 x2 x3 x4 x5 x6 x7 x8 x9 x10 x11).clean.clean.nums = [x0, x1, x2, x3, x4, x5, x6, x7, x8, x9, x10, x11])) with hb_72 | hb_72
        · try rw [hb_72]
          have hqhb_72 := of_decide_eq_true hb_72
          refine CW.cond_false (by kernel_rfl) ?_
          refine CW.skip ?_
          refine CW.seq ?_
          refine CW.region ?_
          refine SL.load (g := g_24) (off := 0) (v := .agg (cvA ((rcor c x0 x1 x2 x3 x4 x5 x6 x7 x8 x9 x10 x11).clean))) rfl rfl rfl (by kernel_rfl) (hs_71.pt_at (i := 0) rfl) (by kernel_rfl) ?_
          refine SL.storeH (i := 3) (g := g_4) (off := 0) (v := .agg (cvA ((rcor c x0 x1 x2 x3 x4 x5 x6 x7 x8 x9 x10 x11).clean))) (L' := [pt g_24 (cvA ((rcor c x0 x1 x2 x3 x4 x5 x6 x7 x8 x9 x10 x11).clean)) 45, pt g_12 ⟨(qStO_3 x0 x1 x2 x3 x4 x5 x6 x7 x8 x9 x10 x11) ++ pad_14⟩ 3, pt g_1 (cvA c.clean) 45, pt g_4 (cvA ((rcor c x0 x1 x2 x3 x4 x5 x6 x7 x8 x9 x10 x11).clean)) 45, pt g_18 (nmA c.clean.clean) 3, pt g_63 (nmA ((rcor c x0 x1 x2 x3 x4 x5 x6 x7 x8 x9 x10 x11).clean.clean)) 3]) hs_71 rfl rfl rfl (by kernel_rfl) (by kernel_rfl) rfl (by kernel_rfl) (by kernel_rfl) rfl (by kernel_rfl) rfl (fun w_73 hs_74 => ?_)
          refine SL.v (iv 0) ?_
          refine SL.nil ?_
          refine CW.ret ?_
          repeat with_reducible first | refine PThen.ret ?_ | refine PBlock.ret ?_
          refine PRet.cellTmp (t := 4) (u := 5) (ty := 45) (g := g_4) (v := .agg (cvA ((rcor c x0 x1 x2 x3 x4 x5 x6 x7 x8 x9 x10 x11).clean))) (v' := iv 0) rfl rfl rfl (by kernel_rfl) (hs_74.pt_at (i := 3) rfl) (by kernel_rfl) (by kernel_rfl) ?_
          exact ⟨rfl, hs_74.gr⟩
        · try rw [hb_72]
          have hqhb_72 := of_decide_eq_false hb_72
          refine CW.cond_true (by kernel_rfl) ?_
          refine CW.seq ?_
          refine CW.region ?_
          refine SL.load (g := g_1) (off := 0) (v := .agg (cvA c.clean)) rfl rfl rfl (by kernel_rfl) (hs_71.pt_at (i := 2) rfl) (by kernel_rfl) ?_
          refine SL.storeH (i := 3) (g := g_4) (off := 0) (v := .agg (cvA c.clean)) (L' := [pt g_24 (cvA ((rcor c x0 x1 x2 x3 x4 x5 x6 x7 x8 x9 x10 x11).clean)) 45, pt g_12 ⟨(qStO_3 x0 x1 x2 x3 x4 x5 x6 x7 x8 x9 x10 x11) ++ pad_14⟩ 3, pt g_1 (cvA c.clean) 45, pt g_4 (cvA c.clean) 45, pt g_18 (nmA c.clean.clean) 3, pt g_63 (nmA ((rcor c x0 x1 x2 x3 x4 x5 x6 x7 x8 x9 x10 x11).clean.clean)) 3]) hs_71 rfl rfl rfl (by kernel_rfl) (by kernel_rfl) rfl (by kernel_rfl) (by kernel_rfl) rfl (by kernel_rfl) rfl (fun w_75 hs_76 => ?_)
          refine SL.v (iv 3) ?_
          refine SL.nil ?_
          refine CW.ret ?_
          repeat with_reducible first | refine PThen.ret ?_ | refine PBlock.ret ?_
          refine PRet.cellTmp (t := 4) (u := 5) (ty := 45) (g := g_4) (v := .agg (cvA c.clean)) (v' := iv 3) rfl rfl rfl (by kernel_rfl) (hs_76.pt_at (i := 3) rfl) (by kernel_rfl) (by kernel_rfl) ?_
          exact ⟨rfl, hs_76.gr⟩
end Go.Proofs.YtfkecgkfcldffaaGreatDoor

namespace Go.Proofs.YtfkecgkfcldffaaGreatDoor
set_option linter.unusedSimpArgs false
set_option linter.unusedVariables false
open Go.RowKit
set_option linter.unusedVariables false

/-- The numbers that the document takes for a state. -/
def okL (pb pr : Int) (x0 x1 x2 x3 x4 x5 x6 x7 x8 x9 x10 x11 : Int) : Bool := decide (x1 < 2) && decide (x4 < 2) && decide (x6 < 2) && decide (x11 < 2) && decide (1 ≤ x0) && decide (x0 ≤ 5) && decide (x2 ≤ 31) && decide (x3 ≤ 4095) && decide (x5 ≤ 2) && decide (x7 < x9) && decide (x8 < x10) && decide (x9 ≤ pb) && decide (x10 ≤ pr)
/-- A state with other numbers, as the document has it. -/
def dcor (c : Cor) (x0 x1 x2 x3 x4 x5 x6 x7 x8 x9 x10 x11 : Int) : Cor := { c.clean with level := x0, eight := x1 == 1, modes := 4096 * x2 + x3, stream := x4 == 1, status := x5, below := x6 == 1, mt := x7, ml := x8, mb := x9, mr := x10, origin := x11 == 1 }
end Go.Proofs.YtfkecgkfcldffaaGreatDoor

namespace Go.Proofs.YtfkecgkfcldffaaGreatDoor
set_option linter.unusedSimpArgs false
set_option linter.unusedVariables false
open Go.ChangeShapes Go.WideShapes Go.RowKit
set_option linter.unusedVariables false

theorem inner_of {pb pr T l b r : Int} (h : 0 ≤ T ∧ T < b ∧ b ≤ max 0 (max 1 pb) ∧ 0 ≤ l ∧ l < r ∧ r ≤ max 0 (max 1 pr)) : innerZ pb pr T l b r = (T, l, b, r) := by
  obtain ⟨h1, h2, h3, h4, h5, h6⟩ := h
  have e1 : max 0 T = T := by omega
  have e2 : max 0 l = l := by omega
  have e3 : min (max 0 (max 1 pb)) b = b := by omega
  have e4 : min (max 0 (max 1 pr)) r = r := by omega
  have k1 : emptyZ 0 0 (max 0 (max 1 pb)) (max 0 (max 1 pr)) = false := by unfold emptyZ; simp; omega
  have k2 : emptyZ T l b r = false := by unfold emptyZ; simp; omega
  have hm : meetZ 0 0 (max 0 (max 1 pb)) (max 0 (max 1 pr)) T l b r = (T, l, b, r) := by
    unfold meetZ
    rw [e1, e2, e3, e4, k1, k2]
    rfl
  unfold innerZ
  rw [hm]
  simp only [k2, Bool.false_eq_true, if_false]
theorem inner_facts (pb pr mt ml mb mr : Int) : 0 ≤ (innerZ pb pr mt ml mb mr).1 ∧ (innerZ pb pr mt ml mb mr).1 < (innerZ pb pr mt ml mb mr).2.2.1 ∧ (innerZ pb pr mt ml mb mr).2.2.1 ≤ max 0 (max 1 pb) ∧ 0 ≤ (innerZ pb pr mt ml mb mr).2.1 ∧ (innerZ pb pr mt ml mb mr).2.1 < (innerZ pb pr mt ml mb mr).2.2.2 ∧ (innerZ pb pr mt ml mb mr).2.2.2 ≤ max 0 (max 1 pr) := by
  unfold innerZ
  split
  · unfold wholeZ; simp only; omega
  · rename_i h
    have hm : ∀ m : Int × Int × Int × Int, m = meetZ 0 0 (max 0 (max 1 pb)) (max 0 (max 1 pr)) mt ml mb mr → emptyZ m.1 m.2.1 m.2.2.1 m.2.2.2 = false → 0 ≤ m.1 ∧ m.1 < m.2.2.1 ∧ m.2.2.1 ≤ max 0 (max 1 pb) ∧ 0 ≤ m.2.1 ∧ m.2.1 < m.2.2.2 ∧ m.2.2.2 ≤ max 0 (max 1 pr) := by
      intro m hm he
      have hq := empty_f he
      unfold meetZ at hm
      split at hm
      · subst hm; simp only at hq; omega
      · subst hm; simp only at hq ⊢; omega
    exact hm _ rfl (by simpa using h)
theorem clamp_idem {B R row col : Int} (hB : 1 ≤ B) (hR : 1 ≤ R) : clampZ 0 0 B R (clampZ 0 0 B R row col).1 (clampZ 0 0 B R row col).2 = clampZ 0 0 B R row col := by
  have k1 : emptyZ 0 0 B R = false := by unfold emptyZ; simp; omega
  unfold clampZ
  rw [k1]
  simp only [Bool.false_eq_true, if_false]
  unfold clipZ
  simp only [Prod.mk.injEq]
  constructor <;> omega
theorem uL_idem (x : Int) : uL (uL x) = uL x := by
  unfold uL selI between
  by_cases h : 0 ≤ x ∧ x ≤ 3
  · simp [h]
  · have h2 : (decide (0 ≤ x) && decide (x ≤ 3)) = false := by simp; omega
    rw [h2]; rfl
theorem uR_idem (x : Int) : uR (uR x) = uR x := by
  unfold uR selI between
  by_cases h : 0 ≤ x ∧ x ≤ 3
  · simp [h]
  · have h2 : (decide (0 ≤ x) && decide (x ≤ 3)) = false := by simp; omega
    rw [h2]; rfl
theorem clipz_idem (x a b : Int) (h : a ≤ b) : clipZ (clipZ x a b) a b = clipZ x a b := by unfold clipZ; omega
theorem Cor.clean_clean (c : Cor) : c.clean.clean = c.clean := by
  have hf := inner_facts c.pb c.pr c.mt c.ml c.mb c.mr
  have hi := inner_of (pb := max 0 (max 1 c.pb)) (pr := max 0 (max 1 c.pr)) (T := (innerZ c.pb c.pr c.mt c.ml c.mb c.mr).1) (l := (innerZ c.pb c.pr c.mt c.ml c.mb c.mr).2.1) (b := (innerZ c.pb c.pr c.mt c.ml c.mb c.mr).2.2.1) (r := (innerZ c.pb c.pr c.mt c.ml c.mb c.mr).2.2.2) (by omega)
  have hc := clamp_idem (B := max 0 (max 1 c.pb)) (R := max 0 (max 1 c.pr)) (row := c.row) (col := c.col) (by omega) (by omega)
  have eB : max 0 (max 1 (max 0 (max 1 c.pb))) = max 0 (max 1 c.pb) := by omega
  have eR : max 0 (max 1 (max 0 (max 1 c.pr))) = max 0 (max 1 c.pr) := by omega
  have h16 := clipz_idem c.pages 1 16 (by decide)
  have hcin := clipz_in c.pages 1 16 (by decide)
  have hpg := clipz_idem c.page 0 (clipZ c.pages 1 16 - 1) (by omega)
  have hsg : (bif ((bif (c.sg == 3 || c.sg == 2) then c.sg else 0) == 3 || (bif (c.sg == 3 || c.sg == 2) then c.sg else 0) == 2) then (bif (c.sg == 3 || c.sg == 2) then c.sg else 0) else 0) = (bif (c.sg == 3 || c.sg == 2) then c.sg else 0) := by
    cases h : (c.sg == 3 || c.sg == 2)
    · rfl
    · simp only [cond_true]; rw [h]; rfl
  have hr : c.rend % 32 % 32 = c.rend % 32 := by omega
  have hmo : c.modes % 131072 % 131072 = c.modes % 131072 := by omega
  unfold Cor.clean
  simp only [wholeZ, eB, eR, hc, hi, hr, hmo, uL_idem, uR_idem, hsg, clipz_idem _ 1 5 (by decide), clipz_idem _ 0 2 (by decide), h16, hpg]
/-- The program's check is the document's. -/
theorem prs_agree (c : Cor) (x0 x1 x2 x3 x4 x5 x6 x7 x8 x9 x10 x11 : Int) (hb : In16 x0 ∧ In16 x1 ∧ In16 x2 ∧ In16 x3 ∧ In16 x4 ∧ In16 x5 ∧ In16 x6 ∧ In16 x7 ∧ In16 x8 ∧ In16 x9 ∧ In16 x10 ∧ In16 x11) :
    (okL c.clean.pb c.clean.pr x0 x1 x2 x3 x4 x5 x6 x7 x8 x9 x10 x11 = true → (rcor c x0 x1 x2 x3 x4 x5 x6 x7 x8 x9 x10 x11).clean = dcor c x0 x1 x2 x3 x4 x5 x6 x7 x8 x9 x10 x11 ∧ (rcor c x0 x1 x2 x3 x4 x5 x6 x7 x8 x9 x10 x11).clean.clean.nums = [x0, x1, x2, x3, x4, x5, x6, x7, x8, x9, x10, x11]) ∧ ((rcor c x0 x1 x2 x3 x4 x5 x6 x7 x8 x9 x10 x11).clean.clean.nums = [x0, x1, x2, x3, x4, x5, x6, x7, x8, x9, x10, x11] → okL c.clean.pb c.clean.pr x0 x1 x2 x3 x4 x5 x6 x7 x8 x9 x10 x11 = true) := by
  obtain ⟨h0, h1, h2, h3, h4, h5, h6, h7, h8, h9, h10, h11⟩ := hb
  unfold In16 at *
  rw [Cor.clean_clean]
  have eB : max 0 (max 1 c.clean.pb) = c.clean.pb := by show max 0 (max 1 (max 0 (max 1 c.pb))) = max 0 (max 1 c.pb); omega
  have eR : max 0 (max 1 c.clean.pr) = c.clean.pr := by show max 0 (max 1 (max 0 (max 1 c.pr))) = max 0 (max 1 c.pr); omega
  have f1 : ∀ x : Int, 0 ≤ x → (flagZ (!(x == 0)) = x ↔ x < 2) := by
    intro x hx
    cases h : (x == 0) with
    | true => have : x = 0 := by simpa using h
              subst this; decide
    | false => have : x ≠ 0 := by simpa using h
               show (1 : Int) = x ↔ x < 2; omega
  have f2 : ∀ x : Int, 0 ≤ x → x < 2 → (!(x == 0)) = (x == 1) := by
    intro x h0 h1
    have : x = 0 ∨ x = 1 := by omega
    rcases this with rfl | rfl <;> rfl
  have hn : (rcor c x0 x1 x2 x3 x4 x5 x6 x7 x8 x9 x10 x11).clean.nums = [clipZ x0 1 5, flagZ (!(x1 == 0)), (x2 * 4096 + x3) % 131072 / 4096, (x2 * 4096 + x3) % 131072 % 4096, flagZ (!(x4 == 0)), clipZ x5 0 2, flagZ (!(x6 == 0)), (innerZ c.clean.pb c.clean.pr x7 x8 x9 x10).1, (innerZ c.clean.pb c.clean.pr x7 x8 x9 x10).2.1, (innerZ c.clean.pb c.clean.pr x7 x8 x9 x10).2.2.1, (innerZ c.clean.pb c.clean.pr x7 x8 x9 x10).2.2.2, flagZ (!(x11 == 0))] := rfl
  constructor
  · intro hk
    unfold okL at hk
    simp only [Bool.and_eq_true, decide_eq_true_eq] at hk
    obtain ⟨⟨⟨⟨⟨⟨⟨⟨⟨⟨⟨⟨k1, k2⟩, k3⟩, k4⟩, k5⟩, k6⟩, k7⟩, k8⟩, k9⟩, k10⟩, k11⟩, k12⟩, k13⟩ := hk
    have hi := inner_of (pb := c.clean.pb) (pr := c.clean.pr) (T := x7) (l := x8) (b := x9) (r := x10) (by rw [eB, eR]; omega)
    constructor
    · have cc := Cor.clean_clean c
      have e0 : clipZ x0 1 5 = x0 := by unfold clipZ; omega
      have e5 : clipZ x5 0 2 = x5 := by unfold clipZ; omega
      have em : (x2 * 4096 + x3) % 131072 = 4096 * x2 + x3 := by omega
      have hcl : (rcor c x0 x1 x2 x3 x4 x5 x6 x7 x8 x9 x10 x11).clean = { c.clean.clean with level := clipZ x0 1 5, eight := !(x1 == 0), modes := (x2 * 4096 + x3) % 131072, stream := !(x4 == 0), status := clipZ x5 0 2, below := !(x6 == 0), mt := (innerZ c.clean.pb c.clean.pr x7 x8 x9 x10).1, ml := (innerZ c.clean.pb c.clean.pr x7 x8 x9 x10).2.1, mb := (innerZ c.clean.pb c.clean.pr x7 x8 x9 x10).2.2.1, mr := (innerZ c.clean.pb c.clean.pr x7 x8 x9 x10).2.2.2, origin := !(x11 == 0) } := rfl
      rw [hcl, cc, hi, e0, e5, em, f2 x1 h1.1 k1, f2 x4 h4.1 k2, f2 x6 h6.1 k3, f2 x11 h11.1 k4]
      rfl
    · rw [hn, hi, (f1 x1 h1.1).2 k1, (f1 x4 h4.1).2 k2, (f1 x6 h6.1).2 k3, (f1 x11 h11.1).2 k4]
      have e0 : clipZ x0 1 5 = x0 := by unfold clipZ; omega
      have e5 : clipZ x5 0 2 = x5 := by unfold clipZ; omega
      have e2 : (x2 * 4096 + x3) % 131072 / 4096 = x2 := by omega
      have e3 : (x2 * 4096 + x3) % 131072 % 4096 = x3 := by omega
      rw [e0, e5, e2, e3]
  · intro hk
    rw [hn] at hk
    simp only [List.cons.injEq, and_true] at hk
    obtain ⟨k0, k1, k2, k3, k4, k5, k6, k7, k8, k9, k10, k11⟩ := hk
    have hf := inner_facts c.clean.pb c.clean.pr x7 x8 x9 x10
    rw [k7, k8, k9, k10, eB, eR] at hf
    have g1 := (f1 x1 h1.1).1 k1
    have g4 := (f1 x4 h4.1).1 k4
    have g6 := (f1 x6 h6.1).1 k6
    have g11 := (f1 x11 h11.1).1 k11
    have c0 := clipz_in x0 1 5 (by decide)
    have c5 := clipz_in x5 0 2 (by decide)
    unfold okL
    simp only [Bool.and_eq_true, decide_eq_true_eq]
    omega
/-- What a text brings back: the state, and whether it did. -/
def resP (c : Cor) (l : List Int) : Cor × Bool :=
  if l.all isAcc = true then
    match numsR l with
    | [x0, x1, x2, x3, x4, x5, x6, x7, x8, x9, x10, x11] => if okL c.clean.pb c.clean.pr x0 x1 x2 x3 x4 x5 x6 x7 x8 x9 x10 x11 = true then (dcor c x0 x1 x2 x3 x4 x5 x6 x7 x8 x9 x10 x11, true) else (c.clean, false)
    | _ => (c.clean, false)
  else (c.clean, false)
def resC (c : Cor) (l : List Int) : Cor := (resP c l).1
def resK (c : Cor) (l : List Int) : Bool := (resP c l).2
def errK (b : Bool) : Int := bif b then 0 else 3
theorem res_bad {c : Cor} {l : List Int} (h : l.all isAcc = false) : resC c l = c.clean ∧ resK c l = false := by
  unfold resC resK resP; rw [h]; exact ⟨rfl, rfl⟩
theorem res_len {c : Cor} {l : List Int} (h : l.all isAcc = true) (hx : (numsR l).length ≠ 12) : resC c l = c.clean ∧ resK c l = false := by
  unfold resC resK resP
  rw [if_pos h]
  split
  · rename_i he; rw [he] at hx; exact absurd rfl hx
  · exact ⟨rfl, rfl⟩
theorem res_12 {c : Cor} {l : List Int} (x0 x1 x2 x3 x4 x5 x6 x7 x8 x9 x10 x11 : Int) (h : l.all isAcc = true) (hx : numsR l = [x0, x1, x2, x3, x4, x5, x6, x7, x8, x9, x10, x11]) : resC c l = (if okL c.clean.pb c.clean.pr x0 x1 x2 x3 x4 x5 x6 x7 x8 x9 x10 x11 = true then dcor c x0 x1 x2 x3 x4 x5 x6 x7 x8 x9 x10 x11 else c.clean) ∧ resK c l = okL c.clean.pb c.clean.pr x0 x1 x2 x3 x4 x5 x6 x7 x8 x9 x10 x11 := by
  unfold resC resK resP
  rw [if_pos h, hx]
  simp only
  cases okL c.clean.pb c.clean.pr x0 x1 x2 x3 x4 x5 x6 x7 x8 x9 x10 x11 <;> exact ⟨rfl, rfl⟩
theorem acc_in : ∀ (l : List Int) (s : PS), (∀ x ∈ s.done, In16 x) → In16 s.now → l.all isAcc = true → (∀ x ∈ (l.foldl accByte s).done, In16 x) ∧ In16 (l.foldl accByte s).now
  | [], s, h1, h2, _ => ⟨h1, h2⟩
  | c :: l, s, h1, h2, h3 => by
    rw [List.all_cons, Bool.and_eq_true] at h3
    rw [List.foldl_cons]
    have hc := h3.1
    refine acc_in l _ ?_ ?_ h3.2
    · unfold accByte
      split
      · simp only
        split
        · intro x hx
          rcases List.mem_append.1 hx with hx | hx
          · exact h1 x hx
          · simp at hx; subst hx; exact h2
        · exact h1
      · exact h1
    · unfold accByte
      split
      · exact ⟨by simp, by simp⟩
      · rename_i hne
        unfold isAcc at hc
        simp [hne] at hc
        unfold In16 at h2 ⊢
        simp only
        omega
theorem nums_in16 {l : List Int} (h : l.all isAcc = true) : ∀ x ∈ numsR l, In16 x := by
  have h1 := acc_in l PS.init (by simp [PS.init]) ⟨by decide, by decide⟩ h
  rw [← acc_nums l PS.init rfl rfl rfl]
  unfold accList
  split
  · intro x hx
    rcases List.mem_append.1 hx with hx | hx
    · exact h1.1 x hx
    · simp at hx; subst hx; exact h1.2
  · exact h1.1
theorem in16_all {l : List Int} {x0 x1 x2 x3 x4 x5 x6 x7 x8 x9 x10 x11 : Int} (h : l.all isAcc = true) (hx : numsR l = [x0, x1, x2, x3, x4, x5, x6, x7, x8, x9, x10, x11]) : In16 x0 ∧ In16 x1 ∧ In16 x2 ∧ In16 x3 ∧ In16 x4 ∧ In16 x5 ∧ In16 x6 ∧ In16 x7 ∧ In16 x8 ∧ In16 x9 ∧ In16 x10 ∧ In16 x11 := by
  have := nums_in16 h
  rw [hx] at this
  simp only [List.forall_mem_cons, List.not_mem_nil, false_implies, implies_true, and_true] at this
  exact this
theorem srst_any (c : Cor) (l : List Int) (w : World) (hok : c.Ok) (hl : ∀ c ∈ l, 0 ≤ c ∧ c < 256) (hn : l.length ≤ 300) : Calls Tryz.prog 14 #[.agg (cvA c), .string (strOf l)] w fun e w' => e = .returned (.tuple #[.agg (cvA (resC c l)), iv (errK (resK c l))]) ∧ Gr w w' := by
  cases ha : l.all isAcc with
  | false => obtain ⟨e1, e2⟩ := res_bad (c := c) ha; rw [e1, e2]; exact prs_bad c l w hok hl hn ha
  | true =>
    by_cases hx : (numsR l).length = 12
    · obtain ⟨x0, x1, x2, x3, x4, x5, x6, x7, x8, x9, x10, x11, hx⟩ := isL hx
      have hb := in16_all ha hx
      obtain ⟨e1, e2⟩ := res_12 (c := c) x0 x1 x2 x3 x4 x5 x6 x7 x8 x9 x10 x11 ha hx
      obtain ⟨k1, k2⟩ := prs_agree c x0 x1 x2 x3 x4 x5 x6 x7 x8 x9 x10 x11 hb
      rw [e1, e2]
      have hw := prs_12 c l w hok hl hn x0 x1 x2 x3 x4 x5 x6 x7 x8 x9 x10 x11 ha hx hb
      cases hk : okL c.clean.pb c.clean.pr x0 x1 x2 x3 x4 x5 x6 x7 x8 x9 x10 x11 with
      | true =>
        obtain ⟨q1, q2⟩ := k1 hk
        rw [if_pos rfl, ← q1]
        rw [decide_eq_true q2] at hw
        exact hw
      | false =>
        rw [if_neg (by decide)]
        rw [decide_eq_false fun h => by rw [k2 h] at hk; cases hk] at hw
        exact hw
    · obtain ⟨e1, e2⟩ := res_len (c := c) ha hx; rw [e1, e2]; exact prs_len c l w hok hl hn ha hx
theorem fmt_b (l : List Int) : ∀ c ∈ fmtGo l, 0 ≤ c ∧ c < 256 := fun c hc => by have := fmtGo_in l c hc; omega
theorem fmt_l (c : Cor) : (fmtGo c.clean.nums).length ≤ 300 := by
  have := fmtGo_len c.clean.nums
  have h2 : c.clean.nums.length = 12 := rfl
  omega
theorem nums_small {c : Cor} (hok : c.Ok) (hs : smallZ c = true) : ∀ n ∈ c.clean.nums, 0 ≤ n ∧ n ≤ 65535 := by
  unfold smallZ at hs
  simp only [Bool.and_eq_true, decide_eq_true_eq] at hs
  have hf := inner_facts c.pb c.pr c.mt c.ml c.mb c.mr
  have e1 : c.clean.mt = (innerZ c.pb c.pr c.mt c.ml c.mb c.mr).1 := rfl
  have e2 : c.clean.ml = (innerZ c.pb c.pr c.mt c.ml c.mb c.mr).2.1 := rfl
  have e3 : c.clean.mb = (innerZ c.pb c.pr c.mt c.ml c.mb c.mr).2.2.1 := rfl
  have e4 : c.clean.mr = (innerZ c.pb c.pr c.mt c.ml c.mb c.mr).2.2.2 := rfl
  exact nums_in hok.clean (by omega) (by omega)
theorem run_neq_op {P : Program} {e : Nat → Value} {w : World} {o : Oper} {t t' : TypeId} {x y : Operand} {xs ys : Array Value} {b : Bool} (ho : o.op = .binOp .neq t x y t') (hx : evE e x = .agg xs) (hy : evE e y = .agg ys) (hg : P.eqGuardType P.depth t = false)
    (hr : (Op.equal t (.agg xs) (.agg ys)).run P w = .ok b w) : (execOp (evE e) o).run P w = .ok (.value (.bool (!b))) w := by
  have hr' : (Op.equalIn 10000 t (.agg xs) (.agg ys)).run P w = .ok b w := hr
  unfold execOp
  have hgd : (eqGuard .neq t x y (.agg xs) (.agg ys)).run P w = .ok () w := run_eqGuard_agg (P := P) (w := w) BinOp.neq t x y xs ys hg
  simp only [ho, hx, hy, Sem.run_bind, hgd, Result.andThen_ok, run_neq_struct, hr', Sem.run_pure]
end Go.Proofs.YtfkecgkfcldffaaGreatDoor
