/-
  The law MacroStores, walked (gen_mpw.py).
-/
import Derived.Test.YtaeppimldbknhaaZLw4
import Derived.Test.YtaeppimldbknhaaZMpV
import Derived.Test.YtaeppimldbknhaaZSs
namespace Go.Proofs.Ytaeppimldbknhaa
set_option linter.unusedSimpArgs false
set_option linter.unusedVariables false
open Go.RowKit Go.Maps Go.ChangeShapes Go.WideShapes Go.Deep
set_option linter.unusedVariables false

/-- An act. -/
structure ActD where
  i : Int
  c : Bool
  h : Bool
  d : List UInt8
def act0 : ActD := ⟨0, false, false, []⟩
def actC (a : ActD) : List Value := [.int .i64 a.i, .bool a.c, .bool a.h, .string (bsl a.d)]
theorem doR_ok {l m : List Mac} (h : MacOk l) {i : Int} {c hx : Bool} {d : List UInt8} (hd : doR l i c hx d = some m) : MacOk m := by
  unfold doR at hd
  split at hd
  · injection hd with hd; subst hd; exact ⟨List.Pairwise.nil, by simp, by simp [usedL]⟩
  · split at hd
    · injection hd with hd; subst hd; exact defR_ok h _ _ _ _
    · cases hd
set_option maxRecDepth 100000 in
set_option maxHeartbeats 4000000 in
theorem rself_tr (a : Option Addr) (c : Nat) (l : List Mac) (w : World) (hn : l.length ≤ 1000000) (hl : ∀ k, (Lit.int .i64 (l.getD k mac0).1).wf = true ∧ (l.getD k mac0).2.length ≤ maxLen) : Tr Try.prog 18 #[.slice a ((l).length) c, .slice a ((l).length) c] w [rowH 77 2 a (l).length c (mcells l)] (fun v Q => v = .bool true ∧ Q = [rowH 77 2 a (l).length c (mcells l)]) := by
  refine Tr.of fun U hs0 => ?_
  refine calls_sx (n := 26) (args := [.slice a ((l).length) c, .slice a ((l).length) c]) Try.func18 rfl rfl rfl ?_
  refine CW.seq ?_
  refine CW.region ?_
  refine SL.v (.bool false) ?_
  refine SL.nil ?_
  refine CW.seq ?_
  refine CW.seq ?_
  refine CW.region ?_
  refine SL.v (.slice a ((l).length) c) ?_
  refine SL.val (v := .int .i64 (((l).length : Nat) : Int)) (w' := w) rfl rfl (by kernel_rfl) ?_
  refine SL.v (.slice a ((l).length) c) ?_
  refine SL.val (v := .int .i64 (((l).length : Nat) : Int)) (w' := w) rfl rfl (by kernel_rfl) ?_
  refine SL.v (.bool (!((((l).length : Nat) : Int) == (((l).length : Nat) : Int)))) ?_
  refine SL.nil ?_
  have hb_1 : ((((l).length : Nat) : Int) == (((l).length : Nat) : Int)) = true := (beq_self_eq_true _)
  rw [hb_1]
  refine CW.cond_false (by kernel_rfl) ?_
  refine CW.skip ?_
  refine CW.seq ?_
  refine CW.seq ?_
  refine CW.region ?_
  refine SL.v (.int .i64 0) ?_
  refine SL.nil ?_
  refine CW.block ?_
  refine CW.loopI (fun m_ e9 w9 => ∃ (k : Nat), m_ = (l).length - k ∧ SH U w w9 [rowH 77 2 a (l).length c (mcells l)] ∧ (k ≤ (l).length) ∧ e9 0 = .slice a ((l).length) c ∧ e9 1 = .slice a ((l).length) c ∧ e9 4 = .bool false ∧ e9 5 = .int .i64 ((k : Nat) : Int)) ⟨_, 0, rfl, hs0, (Nat.zero_le _), (by kernel_rfl), (by kernel_rfl), (by kernel_rfl), (by kernel_rfl)⟩ ?_
  rintro m_2 e_3 w_4 ⟨k, hm_6, hs_5, hk, hv_7, hv_8, hv_9, hv_10⟩
  obtain ⟨e_11, rfl⟩ : ∃ e_11, e_3 = put1 (put1 (put1 (put1 e_11 0 (.slice a ((l).length) c)) 1 (.slice a ((l).length) c)) 4 (.bool false)) 5 (.int .i64 ((k : Nat) : Int)) := ⟨e_3, (put_self hv_10).trans (congrArg (fun z => put1 z 5 (.int .i64 ((k : Nat) : Int))) ((put_self hv_9).trans (congrArg (fun z => put1 z 4 (.bool false)) ((put_self hv_8).trans (congrArg (fun z => put1 z 1 (.slice a ((l).length) c)) (put_self hv_7))))))⟩
  clear hv_7 hv_8 hv_9 hv_10
  refine CW.seq ?_
  refine CW.seq ?_
  refine CW.region ?_
  refine SL.v (.int .i64 ((k : Nat) : Int)) ?_
  refine SL.v (.slice a ((l).length) c) ?_
  refine SL.val (v := .int .i64 (((l).length : Nat) : Int)) (w' := w_4) rfl rfl (by kernel_rfl) ?_
  refine SL.v (.bool (decide (((k : Nat) : Int) < (((l).length : Nat) : Int)))) ?_
  refine SL.nil ?_
  rcases Bool.eq_false_or_eq_true (decide (((k : Nat) : Int) < (((l).length : Nat) : Int))) with hb_12 | hb_12
  · try rw [hb_12]
    have hqhb_12 := of_decide_eq_true hb_12
    refine CW.cond_true (by kernel_rfl) ?_
    refine CW.skip ?_
    refine CW.seq ?_
    refine CW.block ?_
    refine CW.seq ?_
    obtain ⟨g_13, ha_14⟩ := hs_5.row_some (i := 0) rfl (show 0 < (l).length by omega)
    have HGR : GrL [fun v _ => v = .slice a ((l).length) c, fun v _ => v = .int .i64 ((k : Nat) : Int), fun v _ => v = .pointer (some ⟨g_13, k * 2, none⟩), fun v _ => v = .agg #[.int .i64 ((l.getD k mac0).1), .string (bsl ((l.getD k mac0).2))], fun v _ => v = .slice a ((l).length) c, fun v _ => v = .int .i64 ((k : Nat) : Int), fun v _ => v = .pointer (some ⟨g_13, k * 2, none⟩), fun v _ => v = .agg #[.int .i64 ((l.getD k mac0).1), .string (bsl ((l.getD k mac0).2))]] := ⟨fun _ _ _ _ h => h, ⟨fun _ _ _ _ h => h, ⟨fun _ _ _ _ h => h, ⟨fun _ _ _ _ h => h, ⟨fun _ _ _ _ h => h, ⟨fun _ _ _ _ h => h, ⟨fun _ _ _ _ h => h, ⟨fun _ _ _ _ h => h, trivial⟩⟩⟩⟩⟩⟩⟩⟩
    refine CW.draw 8 (FW [fun v _ => v = .slice a ((l).length) c, fun v _ => v = .int .i64 ((k : Nat) : Int), fun v _ => v = .pointer (some ⟨g_13, k * 2, none⟩), fun v _ => v = .agg #[.int .i64 ((l.getD k mac0).1), .string (bsl ((l.getD k mac0).2))], fun v _ => v = .slice a ((l).length) c, fun v _ => v = .int .i64 ((k : Nat) : Int), fun v _ => v = .pointer (some ⟨g_13, k * 2, none⟩), fun v _ => v = .agg #[.int .i64 ((l.getD k mac0).1), .string (bsl ((l.getD k mac0).2))]]) (fun W => Gr w_4 W) (by kernel_rfl) (by kernel_rfl) (by kernel_rfl) (by kernel_rfl) (by kernel_rfl) (Gr.refl _).drew ?_ ?_
    · refine ⟨?_, ⟨?_, ⟨?_, ⟨?_, ⟨?_, ⟨?_, ⟨?_, ⟨?_, trivial⟩⟩⟩⟩⟩⟩⟩⟩
      · intro L ys W hB hF hP K hK
        show OpE _ _ _ W K
        exact OpE.val (.slice a ((l).length) c) W (by kernel_rfl) (hK _ W hB rfl (fun _ _ h => h))
      · intro L ys W hB hF hP K hK
        show OpE _ _ _ W K
        exact OpE.val (.int .i64 ((k : Nat) : Int)) W (by kernel_rfl) (hK _ W hB rfl (fun _ _ h => h))
      · intro L ys W hB hF hP K hK
        show OpE _ _ _ W K
        exact OpE.known (j := 0) (v := .slice a ((l).length) c) (hF 0 (hP.1 rfl)) (OpE.known (j := 1) (v := .int .i64 ((k : Nat) : Int)) (hF 1 (hP.2.1 rfl)) (OpE.val (.pointer (some ⟨g_13, k * 2, none⟩)) W (run_ixR (len := (l).length) (cap := c) (q := .i64) (I := ((k : Nat) : Int)) (i := k) (size := 2) ha_14 rfl (by kernel_rfl) (by kernel_rfl) rfl (by kernel_rfl) (by kernel_rfl) (by omega)) (hK _ W hB rfl (fun _ _ h => h))))
      · intro L ys W hB hF hP K hK
        show OpE _ _ _ W K
        exact OpE.known (j := 2) (v := .pointer (some ⟨g_13, k * 2, none⟩)) (hF 2 (hP.1 rfl)) (OpE.load (g := g_13) (off := k * 2) (v := .agg #[.int .i64 ((l.getD k mac0).1), .string (bsl ((l.getD k mac0).2))]) rfl (by kernel_rfl) ((hs_5.grow hB).row_blk (i := 0) ha_14 rfl) (ldV_row (k := 2) (by kernel_rfl) (by kernel_rfl) ((hs_5.grow hB).row_many (i := 0) ha_14 rfl (mcells_part (i := k) (j := 0) (by omega) rfl rfl) rfl) rfl rfl) (hK _ W hB rfl (fun _ _ h => h)))
      · intro L ys W hB hF hP K hK
        show OpE _ _ _ W K
        exact OpE.val (.slice a ((l).length) c) W (by kernel_rfl) (hK _ W hB rfl (fun _ _ h => h))
      · intro L ys W hB hF hP K hK
        show OpE _ _ _ W K
        exact OpE.val (.int .i64 ((k : Nat) : Int)) W (by kernel_rfl) (hK _ W hB rfl (fun _ _ h => h))
      · intro L ys W hB hF hP K hK
        show OpE _ _ _ W K
        exact OpE.known (j := 4) (v := .slice a ((l).length) c) (hF 4 (hP.1 rfl)) (OpE.known (j := 5) (v := .int .i64 ((k : Nat) : Int)) (hF 5 (hP.2.1 rfl)) (OpE.val (.pointer (some ⟨g_13, k * 2, none⟩)) W (run_ixR (len := (l).length) (cap := c) (q := .i64) (I := ((k : Nat) : Int)) (i := k) (size := 2) ha_14 rfl (by kernel_rfl) (by kernel_rfl) rfl (by kernel_rfl) (by kernel_rfl) (by omega)) (hK _ W hB rfl (fun _ _ h => h))))
      · intro L ys W hB hF hP K hK
        show OpE _ _ _ W K
        exact OpE.known (j := 6) (v := .pointer (some ⟨g_13, k * 2, none⟩)) (hF 6 (hP.1 rfl)) (OpE.load (g := g_13) (off := k * 2) (v := .agg #[.int .i64 ((l.getD k mac0).1), .string (bsl ((l.getD k mac0).2))]) rfl (by kernel_rfl) ((hs_5.grow hB).row_blk (i := 0) ha_14 rfl) (ldV_row (k := 2) (by kernel_rfl) (by kernel_rfl) ((hs_5.grow hB).row_many (i := 0) ha_14 rfl (mcells_part (i := k) (j := 0) (by omega) rfl rfl) rfl) rfl rfl) (hK _ W hB rfl (fun _ _ h => h)))
    · intro ys_18 w_15 hs_16 hF_17
      have hg_19 := hs_16
      have hs_16 : SH U w w_15 [rowH 77 2 a (l).length c (mcells l)] := hs_5.grow hg_19
      refine SL.knownY (j := 3) (v := .agg #[.int .i64 ((l.getD k mac0).1), .string (bsl ((l.getD k mac0).2))]) (show ys_18 3 = .agg #[.int .i64 ((l.getD k mac0).1), .string (bsl ((l.getD k mac0).2))] from hF_17 3 (by decide)) (SL.knownY (j := 7) (v := .agg #[.int .i64 ((l.getD k mac0).1), .string (bsl ((l.getD k mac0).2))]) (show ys_18 7 = .agg #[.int .i64 ((l.getD k mac0).1), .string (bsl ((l.getD k mac0).2))] from hF_17 7 (by decide)) (?_))
      clear hF_17 HGR
      refine SL.val (v := .bool false) (w' := w_15) rfl rfl ((run_neq_opM (xs := #[.int .i64 ((l.getD k mac0).1), .string (bsl ((l.getD k mac0).2))]) (ys := #[.int .i64 ((l.getD k mac0).1), .string (bsl ((l.getD k mac0).2))]) (b := decide ((l.getD k mac0) = (l.getD k mac0))) rfl (by kernel_rfl) (by kernel_rfl) (by kernel_rfl) (mac_eq (l.getD k mac0) (l.getD k mac0) _ (hl k).1 (hl k).1 (hl k).2 (hl k).2)).trans (by rw [decide_eq_true rfl]; rfl)) ?_
      refine SL.nil ?_
      refine CW.cond_false (by kernel_rfl) ?_
      refine CW.skip ?_
      refine CW.region ?_
      refine SL.v (.int .i64 ((k : Nat) : Int)) ?_
      refine SL.val (v := .int .i64 ((k + 1 : Nat) : Int)) (w' := w_15) rfl rfl (by have hw : IntKind.i64.wrap (((k : Nat) : Int) + 1) = ((k + 1 : Nat) : Int) := (IntWalk.i64_in _ (by omega)).trans (by omega); exact run_eqv (by kernel_rfl) (congrArg (fun z => Value.int .i64 z) hw)) ?_
      refine SL.v (.int .i64 ((k + 1 : Nat) : Int)) ?_
      refine SL.nil ?_
      exact ⟨_, ⟨k + 1, rfl, hs_16, (by omega), (by kernel_rfl), (by kernel_rfl), (by kernel_rfl), (by kernel_rfl)⟩, by omega⟩
  · try rw [hb_12]
    have hqhb_12 := of_decide_eq_false hb_12
    refine CW.cond_false (by kernel_rfl) ?_
    refine CW.exit ?_
    repeat with_reducible first | refine PThen.exit ?_ | refine PBlock.out rfl ?_
    with_reducible refine PBlock.here ?_
    repeat with_reducible refine PBlock.normal ?_
    refine CW.seq ?_
    refine CW.region ?_
    refine SL.v (.bool true) ?_
    refine SL.nil ?_
    refine CW.ret ?_
    repeat with_reducible first | refine PThen.ret ?_ | refine PBlock.ret ?_
    refine PRet.tmp (t := 4) (v := .bool true) rfl rfl (by kernel_rfl) ?_
    exact ⟨_, _, rfl, ⟨rfl, rfl⟩, hs_5.pick [0] rfl⟩
set_option maxRecDepth 100000 in
set_option maxHeartbeats 8000000 in
theorem stores_0 (aa : Option Addr) (cp : Nat) (i1 : Int) (w : World) (hwf : (Lit.int .i64 i1).wf = true) (hM : MaxOk w) : Calls Try.prog 6 #[.slice aa 0 cp, .int .i64 i1] w fun e w' => e = .returned (.bool true) ∧ Gr w w' := by
  have hMU : ∀ w', Upd [] w w' → MaxOk w' := fun w' h => hM.gr h.toGr
  refine calls_sx (n := 78) (args := [.slice aa 0 cp, .int .i64 i1]) Try.func6 rfl rfl rfl ?_
  have hs0 := SH.none w
  refine CW.seq ?_
  refine CW.region ?_
  refine SL.v (.bool false) ?_
  refine SL.nil ?_
  refine CW.seq ?_
  refine CW.seq ?_
  refine CW.region ?_
  refine SL.call (f := 7) (args := #[]) (w1 := w) rfl rfl (by kernel_rfl) (awake20 w (hMU _ hs0.upd)) ?_
  rintro x w_1 ⟨rfl, hc_2⟩
  refine ⟨.bool true, rfl, ?_⟩
  have hs_3 := hs0.grow hc_2
  refine SL.v (.bool false) ?_
  refine SL.nil ?_
  refine CW.cond_false (by kernel_rfl) ?_
  refine CW.skip ?_
  refine CW.seq ?_
  refine CW.region ?_
  refine SL.newH (mk := fun g => .pointer (some ⟨g, 0, none⟩)) (C := #[.map none]) (T := 35) hs_3 rfl rfl (by kernel_rfl) (fun g_4 w_5 hs_6 => ?_)
  have hs_6 : SH [] w w_5 [pt g_4 #[.map none] 35] := hs_6
  refine SL.nil ?_
  refine CW.seq ?_
  refine CW.region ?_
  refine SL.v (.slice none 0 0) ?_
  refine SL.nil ?_
  refine CW.seq ?_
  refine CW.seq ?_
  refine CW.region ?_
  refine SL.v (.int .i64 0) ?_
  refine SL.nil ?_
  refine CW.block ?_
  have hs_7 := (hs_6.addPure (p := macD [] = (DataW.map [] : DataW Unit) ∧ 0 = 0) ⟨rfl, rfl⟩).row0 77 2
  have hs_8 : SH [] w w_5 [pt g_4 #[.map none] 35, oH none 0 (macD []), rowH 77 2 none (([] : List Mac)).length 0 (mcells ([] : List Mac))] := hs_7
  refine CW.loopI (fun m_ e9 w9 => ∃ (k : Nat), ∃ (ob : Option Nat), ∃ (n : Nat), ∃ (l : List Mac), ∃ (a : Option Addr), ∃ (ca : Nat), m_ = 20 - k ∧ SH [] w w9 [pt g_4 #[.map ob] 35, oH ob n (macD l), rowH 77 2 a (l).length ca (mcells l)] ∧ (k ≤ 20) ∧ (MacOk l) ∧ e9 0 = .slice aa 0 cp ∧ e9 1 = .int .i64 i1 ∧ e9 4 = .bool false ∧ e9 5 = .pointer (some ⟨g_4, 0, none⟩) ∧ e9 6 = .slice a ((l).length) ca ∧ e9 7 = .int .i64 ((k : Nat) : Int)) ⟨_, 0, none, 0, [], none, 0, rfl, hs_8, (Nat.zero_le _), ⟨List.Pairwise.nil, by simp, by simp [usedL]⟩, (by kernel_rfl), (by kernel_rfl), (by kernel_rfl), (by kernel_rfl), (by kernel_rfl), (by kernel_rfl)⟩ ?_
  rintro m_9 e_10 w_11 ⟨k, ob, n, l, a, ca, hm_13, hs_12, hk, hk9, hv_14, hv_15, hv_16, hv_17, hv_18, hv_19⟩
  obtain ⟨e_20, rfl⟩ : ∃ e_20, e_10 = put1 (put1 (put1 (put1 (put1 (put1 e_20 0 (.slice aa 0 cp)) 1 (.int .i64 i1)) 4 (.bool false)) 5 (.pointer (some ⟨g_4, 0, none⟩))) 6 (.slice a ((l).length) ca)) 7 (.int .i64 ((k : Nat) : Int)) := ⟨e_10, (put_self hv_19).trans (congrArg (fun z => put1 z 7 (.int .i64 ((k : Nat) : Int))) ((put_self hv_18).trans (congrArg (fun z => put1 z 6 (.slice a ((l).length) ca)) ((put_self hv_17).trans (congrArg (fun z => put1 z 5 (.pointer (some ⟨g_4, 0, none⟩))) ((put_self hv_16).trans (congrArg (fun z => put1 z 4 (.bool false)) ((put_self hv_15).trans (congrArg (fun z => put1 z 1 (.int .i64 i1)) (put_self hv_14))))))))))⟩
  clear hv_14 hv_15 hv_16 hv_17 hv_18 hv_19
  have hn9 := rise_len hk9
  refine CW.seq ?_
  refine CW.seq ?_
  refine CW.region ?_
  refine SL.v (.int .i64 ((k : Nat) : Int)) ?_
  refine SL.v (.slice aa 0 cp) ?_
  refine SL.val (v := .int .i64 0) (w' := w_11) rfl rfl (by kernel_rfl) ?_
  refine SL.v (.bool (decide (((k : Nat) : Int) < 0))) ?_
  refine SL.v (.bool (decide (((k : Nat) : Int) < 0))) ?_
  have hb_21 : (decide (((k : Nat) : Int) < 0)) = false := (decide_eq_false (by omega))
  rw [hb_21]
  have hqhb_21 := of_decide_eq_false hb_21
  refine SL.no false ?_
  refine SL.no false ?_
  refine SL.v (.bool false) ?_
  refine SL.nil ?_
  refine CW.cond_false (by kernel_rfl) ?_
  refine CW.exit ?_
  repeat with_reducible first | refine PThen.exit ?_ | refine PBlock.out rfl ?_
  with_reducible refine PBlock.here ?_
  repeat with_reducible refine PBlock.normal ?_
  refine CW.seq ?_
  refine CW.region ?_
  refine SL.v (.int .i64 i1) ?_
  refine SL.callH (f := 19) (args := #[.pointer (some ⟨g_4, 0, none⟩), .int .i64 i1]) (Pre := [pt g_4 #[.map ob] 35, oH ob n (macD l)]) (Rest := [rowH 77 2 a (l).length ca (mcells l)]) [0, 0] hs_12 rfl rfl (by kernel_rfl) rfl (get_o g_4 ob n l i1 w_11 hwf) ?_
  rintro v_ Q_ w_22 ⟨rfl, rfl⟩ hs_24
  have hs_24 : SH [] w w_22 [pt g_4 #[.map ob] 35, oH ob n (macD l), rowH 77 2 a (l).length ca (mcells l)] := hs_24
  refine SL.v (.tuple #[.string (bsl ((getL l i1).getD [])), .bool ((getL l i1).isSome)]) ?_
  refine SL.v (.string (bsl ((getL l i1).getD []))) ?_
  refine SL.v (.bool ((getL l i1).isSome)) ?_
  refine SL.v (.string (bsl ((getL l i1).getD []))) ?_
  refine SL.v (.bool ((getL l i1).isSome)) ?_
  refine SL.nil ?_
  refine CW.seq ?_
  refine CW.region ?_
  refine SL.v (.slice a ((l).length) ca) ?_
  refine SL.v (.int .i64 i1) ?_
  refine SL.callH (f := 20) (args := #[.slice a ((l).length) ca, .int .i64 i1]) (Pre := [rowH 77 2 a (l).length ca (mcells l)]) (Rest := [pt g_4 #[.map ob] 35, oH ob n (macD l)]) [2] hs_24 rfl rfl (by kernel_rfl) rfl (rget_tr a ca l i1 w_22 (by omega)) ?_
  rintro v_ Q_ w_25 ⟨rfl, rfl⟩ hs_27
  have hs_27 : SH [] w w_25 [rowH 77 2 a (l).length ca (mcells l), pt g_4 #[.map ob] 35, oH ob n (macD l)] := hs_27
  refine SL.v (.tuple #[.string (bsl ((getL l i1).getD [])), .bool ((getL l i1).isSome)]) ?_
  refine SL.v (.string (bsl ((getL l i1).getD []))) ?_
  refine SL.v (.bool ((getL l i1).isSome)) ?_
  refine SL.v (.string (bsl ((getL l i1).getD []))) ?_
  refine SL.v (.bool ((getL l i1).isSome)) ?_
  refine SL.nil ?_
  refine CW.seq ?_
  refine CW.region ?_
  refine SL.v (.string (bsl ((getL l i1).getD []))) ?_
  refine SL.v (.string (bsl ((getL l i1).getD []))) ?_
  refine SL.val (v := .bool true) (w' := w_25) rfl rfl (run_streqB (a := bsl ((getL l i1).getD [])) (b := bsl ((getL l i1).getD [])) (c := true) rfl (by kernel_rfl) (by kernel_rfl) (seqB_self _)) ?_
  refine SL.v (.bool true) ?_
  refine SL.go ?_
  refine SL.v (.bool ((getL l i1).isSome)) ?_
  refine SL.go ?_
  refine SL.v (.bool ((getL l i1).isSome)) ?_
  refine SL.go ?_
  refine SL.val (v := .bool true) (w' := w_25) rfl rfl (run_booleq (a := (getL l i1).isSome) (b := (getL l i1).isSome) (c := true) rfl (by kernel_rfl) (by kernel_rfl) (by kernel_rfl) (by cases ((getL l i1).isSome) <;> rfl)) ?_
  refine SL.v (.bool true) ?_
  refine SL.v (.bool true) ?_
  refine SL.nil ?_
  refine CW.ret ?_
  repeat with_reducible first | refine PThen.ret ?_ | refine PBlock.ret ?_
  refine PRet.tmp (t := 4) (v := .bool true) rfl rfl (by kernel_rfl) ?_
  exact ⟨rfl, hs_27.gr⟩
set_option maxRecDepth 100000 in
set_option maxHeartbeats 8000000 in
theorem stores_n (b off cp : Nat) (C : Array Value) (T : TypeId) (fr : Nat × Nat) (acts : List ActD) (i1 : Int) (w : World) (hwf : (Lit.int .i64 i1).wf = true) (hM : MaxOk w) (hb0 : w.heap[b]? = some (.cells C T fr)) (hev : ∀ i, i < acts.length → (C.toList.drop (off + i * 4)).take 4 = actC (acts.getD i act0) ∧ (Lit.int .i64 (acts.getD i act0).i).wf = true ∧ (acts.getD i act0).d.length ≤ maxLen) (hbig : acts.length ≤ 9223372036854775807) : Calls Try.prog 6 #[.slice (some ⟨b, off, none⟩) acts.length cp, .int .i64 i1] w fun e w' => e = .returned (.bool true) ∧ Gr w w' := by
  have hMU : ∀ w', Upd [] w w' → MaxOk w' := fun w' h => hM.gr h.toGr
  refine calls_sx (n := 78) (args := [.slice (some ⟨b, off, none⟩) acts.length cp, .int .i64 i1]) Try.func6 rfl rfl rfl ?_
  have hs0 := SH.none w
  refine CW.seq ?_
  refine CW.region ?_
  refine SL.v (.bool false) ?_
  refine SL.nil ?_
  refine CW.seq ?_
  refine CW.seq ?_
  refine CW.region ?_
  refine SL.call (f := 7) (args := #[]) (w1 := w) rfl rfl (by kernel_rfl) (awake20 w (hMU _ hs0.upd)) ?_
  rintro x w_1 ⟨rfl, hc_2⟩
  refine ⟨.bool true, rfl, ?_⟩
  have hs_3 := hs0.grow hc_2
  refine SL.v (.bool false) ?_
  refine SL.nil ?_
  refine CW.cond_false (by kernel_rfl) ?_
  refine CW.skip ?_
  refine CW.seq ?_
  refine CW.region ?_
  refine SL.newH (mk := fun g => .pointer (some ⟨g, 0, none⟩)) (C := #[.map none]) (T := 35) hs_3 rfl rfl (by kernel_rfl) (fun g_4 w_5 hs_6 => ?_)
  have hs_6 : SH [] w w_5 [pt g_4 #[.map none] 35] := hs_6
  refine SL.nil ?_
  refine CW.seq ?_
  refine CW.region ?_
  refine SL.v (.slice none 0 0) ?_
  refine SL.nil ?_
  refine CW.seq ?_
  refine CW.seq ?_
  refine CW.region ?_
  refine SL.v (.int .i64 0) ?_
  refine SL.nil ?_
  refine CW.block ?_
  have hs_7 := (hs_6.addPure (p := macD [] = (DataW.map [] : DataW Unit) ∧ 0 = 0) ⟨rfl, rfl⟩).row0 77 2
  have hs_8 : SH [] w w_5 [pt g_4 #[.map none] 35, oH none 0 (macD []), rowH 77 2 none (([] : List Mac)).length 0 (mcells ([] : List Mac))] := hs_7
  refine CW.loopI (fun m_ e9 w9 => ∃ (k : Nat), ∃ (ob : Option Nat), ∃ (n : Nat), ∃ (l : List Mac), ∃ (a : Option Addr), ∃ (ca : Nat), m_ = 20 - k ∧ SH [] w w9 [pt g_4 #[.map ob] 35, oH ob n (macD l), rowH 77 2 a (l).length ca (mcells l)] ∧ (k ≤ 20) ∧ (MacOk l) ∧ e9 0 = .slice (some ⟨b, off, none⟩) acts.length cp ∧ e9 1 = .int .i64 i1 ∧ e9 4 = .bool false ∧ e9 5 = .pointer (some ⟨g_4, 0, none⟩) ∧ e9 6 = .slice a ((l).length) ca ∧ e9 7 = .int .i64 ((k : Nat) : Int)) ⟨_, 0, none, 0, [], none, 0, rfl, hs_8, (Nat.zero_le _), ⟨List.Pairwise.nil, by simp, by simp [usedL]⟩, (by kernel_rfl), (by kernel_rfl), (by kernel_rfl), (by kernel_rfl), (by kernel_rfl), (by kernel_rfl)⟩ ?_
  rintro m_9 e_10 w_11 ⟨k, ob, n, l, a, ca, hm_13, hs_12, hk, hk9, hv_14, hv_15, hv_16, hv_17, hv_18, hv_19⟩
  obtain ⟨e_20, rfl⟩ : ∃ e_20, e_10 = put1 (put1 (put1 (put1 (put1 (put1 e_20 0 (.slice (some ⟨b, off, none⟩) acts.length cp)) 1 (.int .i64 i1)) 4 (.bool false)) 5 (.pointer (some ⟨g_4, 0, none⟩))) 6 (.slice a ((l).length) ca)) 7 (.int .i64 ((k : Nat) : Int)) := ⟨e_10, (put_self hv_19).trans (congrArg (fun z => put1 z 7 (.int .i64 ((k : Nat) : Int))) ((put_self hv_18).trans (congrArg (fun z => put1 z 6 (.slice a ((l).length) ca)) ((put_self hv_17).trans (congrArg (fun z => put1 z 5 (.pointer (some ⟨g_4, 0, none⟩))) ((put_self hv_16).trans (congrArg (fun z => put1 z 4 (.bool false)) ((put_self hv_15).trans (congrArg (fun z => put1 z 1 (.int .i64 i1)) (put_self hv_14))))))))))⟩
  clear hv_14 hv_15 hv_16 hv_17 hv_18 hv_19
  have hn9 := rise_len hk9
  obtain ⟨E, hE⟩ : ∃ E, E = acts.getD k act0 := ⟨_, rfl⟩
  have hld : k < acts.length → (C.toList.drop (off + (k * 4))).take 4 = actC E := fun h_ => by rw [hE]; exact (hev k h_).1
  have hE2 : (Lit.int .i64 E.i).wf = true ∧ E.d.length ≤ maxLen := by
    by_cases h_ : k < acts.length
    · rw [hE]; exact (hev k h_).2
    · rw [hE, List.getD_eq_getElem?_getD, List.getElem?_eq_none (by omega)]; exact ⟨wf_i64 (by decide) (by decide), Nat.zero_le _⟩
  clear hE
  refine CW.seq ?_
  refine CW.seq ?_
  refine CW.region ?_
  refine SL.v (.int .i64 ((k : Nat) : Int)) ?_
  refine SL.v (.slice (some ⟨b, off, none⟩) acts.length cp) ?_
  refine SL.val (v := .int .i64 ((acts.length : Nat) : Int)) (w' := w_11) rfl rfl (by kernel_rfl) ?_
  refine SL.v (.bool (decide (((k : Nat) : Int) < ((acts.length : Nat) : Int)))) ?_
  refine SL.v (.bool (decide (((k : Nat) : Int) < ((acts.length : Nat) : Int)))) ?_
  rcases Bool.eq_false_or_eq_true (decide (((k : Nat) : Int) < ((acts.length : Nat) : Int))) with hb_21 | hb_21
  · try rw [hb_21]
    have hqhb_21 := of_decide_eq_true hb_21
    refine SL.go ?_
    refine SL.v (.int .i64 ((k : Nat) : Int)) ?_
    refine SL.go ?_
    refine SL.v (.bool (decide (((k : Nat) : Int) < 20))) ?_
    refine SL.v (.bool (decide (((k : Nat) : Int) < 20))) ?_
    refine SL.nil ?_
    rcases Bool.eq_false_or_eq_true (decide (((k : Nat) : Int) < 20)) with hb_22 | hb_22
    · try rw [hb_22]
      have hqhb_22 := of_decide_eq_true hb_22
      refine CW.cond_true (by kernel_rfl) ?_
      refine CW.skip ?_
      refine CW.seq ?_
      refine CW.block ?_
      refine CW.seq ?_
      refine CW.region ?_
      refine SL.callH (f := 14) (args := #[.pointer (some ⟨g_4, 0, none⟩)]) (Pre := [pt g_4 #[.map ob] 35, oH ob n (macD l)]) (Rest := [rowH 77 2 a (l).length ca (mcells l)]) [0, 0] hs_12 rfl rfl (by kernel_rfl) rfl (sclone_o g_4 ob n (macD l) w_11) ?_
      rintro v_ Q_ w_27 ⟨g_23, ob_24, rfl, ho_25, rfl⟩ hs_29
      have hs_29 : SH [] w w_27 [pt g_23 #[.map ob_24] 35, oH ob_24 n (macD l), pt g_4 #[.map ob] 35, oH ob n (macD l), rowH 77 2 a (l).length ca (mcells l)] := hs_29
      refine SL.v (.pointer (some ⟨g_23, 0, none⟩)) ?_
      refine SL.nil ?_
      refine CW.seq ?_
      rcases Bool.eq_false_or_eq_true ((doR l E.i E.c E.h E.d).isNone) with hb_30 | hb_30
      · try rw [hb_30]
        refine CW.region ?_
        refine SL.v (.slice a ((l).length) ca) ?_
        refine SL.v (.slice (some ⟨b, off, none⟩) acts.length cp) ?_
        refine SL.v (.int .i64 ((k : Nat) : Int)) ?_
        refine SL.val (v := .pointer (some ⟨b, off + (k * 4), none⟩)) (w' := w_27) rfl rfl ((run_ix (len := acts.length) (cap := cp) (q := .i64) (I := ((k : Nat) : Int)) (g := b) (off := off) (i := k) (size := 4) rfl (by kernel_rfl) (by kernel_rfl) rfl (by kernel_rfl) (by kernel_rfl) (by omega)).trans (by rw [show off + k * 4 = off + (k * 4) from by omega])) ?_
        refine SL.load (g := b) (off := off + (k * 4)) (v := .agg #[.int .i64 E.i, .bool E.c, .bool E.h, .string (bsl E.d)]) rfl rfl rfl (by kernel_rfl) (hs_29.gr.blk hb0) (ldV_row (k := 4) (by kernel_rfl) (by kernel_rfl) (hld (by omega)) rfl rfl) ?_
        refine SL.callHM (hI := hMU) (f := 16) (args := #[.pointer (some ⟨g_4, 0, none⟩), .slice a ((l).length) ca, .agg #[.int .i64 E.i, .bool E.c, .bool E.h, .string (bsl E.d)]]) (Pre := [pt g_4 #[.map ob] 35, oH ob n (macD l), rowH 77 2 a (l).length ca (mcells l)]) (Rest := [pt g_23 #[.map ob_24] 35, oH ob_24 n (macD l)]) [2, 2, 2] hs_29 rfl rfl (by kernel_rfl) rfl ((do_tr g_4 ob n l a ca E.i E.c E.h E.d w_27 hk9 hE2.1 hE2.2).mono (fun v Q h_ => h_.resolve_right (fun ⟨_, h2_, _⟩ => by rw [h2_] at hb_30; cases hb_30))) ?_
        rintro v_ Q_ w_31 ⟨hd9, rfl, rfl⟩ hs_33
        have hs_33 : SH [] w w_31 [pt g_4 #[.map ob] 35, oH ob n (macD l), rowH 77 2 a (l).length ca (mcells l), pt g_23 #[.map ob_24] 35, oH ob_24 n (macD l)] := hs_33
        refine SL.v (.tuple #[.slice a ((l).length) ca, .bool true]) ?_
        refine SL.v (.slice a ((l).length) ca) ?_
        refine SL.v (.bool true) ?_
        refine SL.v (.slice a ((l).length) ca) ?_
        refine SL.v (.bool true) ?_
        refine SL.nil ?_
        refine CW.seq ?_
        refine CW.seq ?_
        refine CW.region ?_
        refine SL.v (.bool true) ?_
        refine SL.v (.bool false) ?_
        refine SL.v (.bool false) ?_
        refine SL.go ?_
        refine SL.v (.slice a ((l).length) ca) ?_
        refine SL.go ?_
        refine SL.callH (f := 17) (args := #[.pointer (some ⟨g_4, 0, none⟩), .slice a ((l).length) ca]) (Pre := [pt g_4 #[.map ob] 35, oH ob n (macD l), rowH 77 2 a (l).length ca (mcells l)]) (Rest := [pt g_23 #[.map ob_24] 35, oH ob_24 n (macD l)]) [0, 0, 0] hs_33 rfl rfl (by kernel_rfl) rfl (is_tr g_4 ob n l a ca w_31 hk9) ?_
        rintro v_ Q_ w_34 ⟨rfl, rfl⟩ hs_36
        have hs_36 : SH [] w w_34 [pt g_4 #[.map ob] 35, oH ob n (macD l), rowH 77 2 a (l).length ca (mcells l), pt g_23 #[.map ob_24] 35, oH ob_24 n (macD l)] := hs_36
        refine SL.go ?_
        refine SL.v (.bool false) ?_
        refine SL.v (.bool false) ?_
        refine SL.v (.bool false) ?_
        refine SL.go ?_
        refine SL.v (.pointer (some ⟨g_23, 0, none⟩)) ?_
        refine SL.go ?_
        refine SL.v (.slice a ((l).length) ca) ?_
        refine SL.go ?_
        refine SL.callH (f := 17) (args := #[.pointer (some ⟨g_23, 0, none⟩), .slice a ((l).length) ca]) (Pre := [pt g_23 #[.map ob_24] 35, oH ob_24 n (macD l), rowH 77 2 a (l).length ca (mcells l)]) (Rest := [pt g_4 #[.map ob] 35, oH ob n (macD l)]) [3, 3, 2] hs_36 rfl rfl (by kernel_rfl) rfl (is_tr g_23 ob_24 n l a ca w_34 hk9) ?_
        rintro v_ Q_ w_37 ⟨rfl, rfl⟩ hs_39
        have hs_39 : SH [] w w_37 [pt g_23 #[.map ob_24] 35, oH ob_24 n (macD l), rowH 77 2 a (l).length ca (mcells l), pt g_4 #[.map ob] 35, oH ob n (macD l)] := hs_39
        refine SL.go ?_
        refine SL.v (.bool false) ?_
        refine SL.v (.bool false) ?_
        refine SL.v (.bool false) ?_
        refine SL.go ?_
        refine SL.v (.pointer (some ⟨g_23, 0, none⟩)) ?_
        refine SL.go ?_
        refine SL.callH (f := 15) (args := #[.pointer (some ⟨g_4, 0, none⟩), .pointer (some ⟨g_23, 0, none⟩)]) (Pre := [pt g_4 #[.map ob] 35, oH ob n (macD l), pt g_23 #[.map ob_24] 35, oH ob_24 n (macD l)]) (Rest := [rowH 77 2 a (l).length ca (mcells l)]) [3, 3, 0, 0] hs_39 rfl rfl (by kernel_rfl) rfl (same_g g_4 g_23 ob ob_24 n n l l w_37 hk9.rise hk9.rise) ?_
        rintro v_ Q_ w_40 ⟨rfl, rfl⟩ hs_42
        have hs_42 : SH [] w w_40 [pt g_4 #[.map ob] 35, oH ob n (macD l), pt g_23 #[.map ob_24] 35, oH ob_24 n (macD l), rowH 77 2 a (l).length ca (mcells l)] := hs_42
        refine SL.go ?_
        refine SL.v (.slice a ((l).length) ca) ?_
        refine SL.go ?_
        refine SL.v (.slice a ((l).length) ca) ?_
        refine SL.go ?_
        refine SL.callH (f := 18) (args := #[.slice a ((l).length) ca, .slice a ((l).length) ca]) (Pre := [rowH 77 2 a (l).length ca (mcells l)]) (Rest := [pt g_4 #[.map ob] 35, oH ob n (macD l), pt g_23 #[.map ob_24] 35, oH ob_24 n (macD l)]) [4] hs_42 rfl rfl (by kernel_rfl) rfl ((rself_tr a ca l w_40 (by omega) (fun k => ⟨mac_wf hk9 k, Nat.le_trans (mac_len hk9 k) (by decide)⟩)).mono (fun v Q h => (show v = .bool (decide (l = l)) ∧ Q = [rowH 77 2 a (l).length ca (mcells l)] from ⟨h.1.trans (by rw [decide_eq_true rfl]), h.2⟩))) ?_
        rintro v_ Q_ w_43 ⟨rfl, rfl⟩ hs_45
        have hs_45 : SH [] w w_43 [rowH 77 2 a (l).length ca (mcells l), pt g_4 #[.map ob] 35, oH ob n (macD l), pt g_23 #[.map ob_24] 35, oH ob_24 n (macD l)] := hs_45
        refine SL.go ?_
        refine SL.val (v := .bool false) (w' := w_43) rfl rfl (run_boolne (a := decide (l = l)) (b := decide (l = l)) (c := false) rfl (by kernel_rfl) (by kernel_rfl) (by kernel_rfl) (by cases (decide (l = l)) <;> rfl)) ?_
        refine SL.v (.bool false) ?_
        refine SL.nil ?_
        refine CW.cond_false (by kernel_rfl) ?_
        refine CW.skip ?_
        refine CW.region ?_
        refine SL.v (.slice a ((l).length) ca) ?_
        refine SL.v (.slice a ((l).length) ca) ?_
        refine SL.nil ?_
        refine CW.region ?_
        refine SL.v (.int .i64 ((k : Nat) : Int)) ?_
        refine SL.val (v := .int .i64 ((k + 1 : Nat) : Int)) (w' := w_43) rfl rfl (by have hw : IntKind.i64.wrap (((k : Nat) : Int) + 1) = ((k + 1 : Nat) : Int) := (IntWalk.i64_in _ (by omega)).trans (by omega); exact run_eqv (by kernel_rfl) (congrArg (fun z => Value.int .i64 z) hw)) ?_
        refine SL.v (.int .i64 ((k + 1 : Nat) : Int)) ?_
        refine SL.nil ?_
        exact ⟨_, ⟨k + 1, ob, n, l, a, ca, rfl, (hs_45.pick [1, 1, 0] rfl), (by omega), hk9, (by kernel_rfl), (by kernel_rfl), (by kernel_rfl), (by kernel_rfl), (by kernel_rfl), (by kernel_rfl)⟩, by omega⟩
      · try rw [hb_30]
        refine CW.region ?_
        refine SL.v (.slice a ((l).length) ca) ?_
        refine SL.v (.slice (some ⟨b, off, none⟩) acts.length cp) ?_
        refine SL.v (.int .i64 ((k : Nat) : Int)) ?_
        refine SL.val (v := .pointer (some ⟨b, off + (k * 4), none⟩)) (w' := w_27) rfl rfl ((run_ix (len := acts.length) (cap := cp) (q := .i64) (I := ((k : Nat) : Int)) (g := b) (off := off) (i := k) (size := 4) rfl (by kernel_rfl) (by kernel_rfl) rfl (by kernel_rfl) (by kernel_rfl) (by omega)).trans (by rw [show off + k * 4 = off + (k * 4) from by omega])) ?_
        refine SL.load (g := b) (off := off + (k * 4)) (v := .agg #[.int .i64 E.i, .bool E.c, .bool E.h, .string (bsl E.d)]) rfl rfl rfl (by kernel_rfl) (hs_29.gr.blk hb0) (ldV_row (k := 4) (by kernel_rfl) (by kernel_rfl) (hld (by omega)) rfl rfl) ?_
        refine SL.callHM (hI := hMU) (f := 16) (args := #[.pointer (some ⟨g_4, 0, none⟩), .slice a ((l).length) ca, .agg #[.int .i64 E.i, .bool E.c, .bool E.h, .string (bsl E.d)]]) (Pre := [pt g_4 #[.map ob] 35, oH ob n (macD l), rowH 77 2 a (l).length ca (mcells l)]) (Rest := [pt g_23 #[.map ob_24] 35, oH ob_24 n (macD l)]) [2, 2, 2] hs_29 rfl rfl (by kernel_rfl) rfl ((do_tr g_4 ob n l a ca E.i E.c E.h E.d w_27 hk9 hE2.1 hE2.2).mono (fun v Q h_ => h_.resolve_left (fun h2_ => by rw [h2_.1] at hb_30; cases hb_30))) ?_
        rintro v_ Q_ w_54 ⟨m_46, hd_51, ob_47, n_48, a_49, c_50, rfl, rfl⟩ hs_56
        have hs_56 : SH [] w w_54 [pt g_4 #[.map ob_47] 35, oH ob_47 n_48 (macD m_46), rowH 77 2 a_49 (m_46).length c_50 (mcells m_46), rowH 77 2 a (l).length ca (mcells l), pt g_23 #[.map ob_24] 35, oH ob_24 n (macD l)] := hs_56
        have hk9m_46 := doR_ok hk9 hd_51
        have hn9m_46 := rise_len hk9m_46
        refine SL.v (.tuple #[.slice a_49 ((m_46).length) c_50, .bool true]) ?_
        refine SL.v (.slice a_49 ((m_46).length) c_50) ?_
        refine SL.v (.bool true) ?_
        refine SL.v (.slice a_49 ((m_46).length) c_50) ?_
        refine SL.v (.bool true) ?_
        refine SL.nil ?_
        refine CW.seq ?_
        refine CW.seq ?_
        refine CW.region ?_
        refine SL.v (.bool true) ?_
        refine SL.v (.bool false) ?_
        refine SL.v (.bool false) ?_
        refine SL.go ?_
        refine SL.v (.slice a_49 ((m_46).length) c_50) ?_
        refine SL.go ?_
        refine SL.callH (f := 17) (args := #[.pointer (some ⟨g_4, 0, none⟩), .slice a_49 ((m_46).length) c_50]) (Pre := [pt g_4 #[.map ob_47] 35, oH ob_47 n_48 (macD m_46), rowH 77 2 a_49 (m_46).length c_50 (mcells m_46)]) (Rest := [rowH 77 2 a (l).length ca (mcells l), pt g_23 #[.map ob_24] 35, oH ob_24 n (macD l)]) [0, 0, 0] hs_56 rfl rfl (by kernel_rfl) rfl (is_tr g_4 ob_47 n_48 m_46 a_49 c_50 w_54 hk9m_46) ?_
        rintro v_ Q_ w_57 ⟨rfl, rfl⟩ hs_59
        have hs_59 : SH [] w w_57 [pt g_4 #[.map ob_47] 35, oH ob_47 n_48 (macD m_46), rowH 77 2 a_49 (m_46).length c_50 (mcells m_46), rowH 77 2 a (l).length ca (mcells l), pt g_23 #[.map ob_24] 35, oH ob_24 n (macD l)] := hs_59
        refine SL.go ?_
        refine SL.v (.bool false) ?_
        refine SL.v (.bool false) ?_
        refine SL.v (.bool false) ?_
        refine SL.go ?_
        refine SL.v (.pointer (some ⟨g_23, 0, none⟩)) ?_
        refine SL.go ?_
        refine SL.v (.slice a ((l).length) ca) ?_
        refine SL.go ?_
        refine SL.callH (f := 17) (args := #[.pointer (some ⟨g_23, 0, none⟩), .slice a ((l).length) ca]) (Pre := [pt g_23 #[.map ob_24] 35, oH ob_24 n (macD l), rowH 77 2 a (l).length ca (mcells l)]) (Rest := [pt g_4 #[.map ob_47] 35, oH ob_47 n_48 (macD m_46), rowH 77 2 a_49 (m_46).length c_50 (mcells m_46)]) [4, 4, 3] hs_59 rfl rfl (by kernel_rfl) rfl (is_tr g_23 ob_24 n l a ca w_57 hk9) ?_
        rintro v_ Q_ w_60 ⟨rfl, rfl⟩ hs_62
        have hs_62 : SH [] w w_60 [pt g_23 #[.map ob_24] 35, oH ob_24 n (macD l), rowH 77 2 a (l).length ca (mcells l), pt g_4 #[.map ob_47] 35, oH ob_47 n_48 (macD m_46), rowH 77 2 a_49 (m_46).length c_50 (mcells m_46)] := hs_62
        refine SL.go ?_
        refine SL.v (.bool false) ?_
        refine SL.v (.bool false) ?_
        refine SL.v (.bool false) ?_
        refine SL.go ?_
        refine SL.v (.pointer (some ⟨g_23, 0, none⟩)) ?_
        refine SL.go ?_
        refine SL.callH (f := 15) (args := #[.pointer (some ⟨g_4, 0, none⟩), .pointer (some ⟨g_23, 0, none⟩)]) (Pre := [pt g_4 #[.map ob_47] 35, oH ob_47 n_48 (macD m_46), pt g_23 #[.map ob_24] 35, oH ob_24 n (macD l)]) (Rest := [rowH 77 2 a (l).length ca (mcells l), rowH 77 2 a_49 (m_46).length c_50 (mcells m_46)]) [3, 3, 0, 0] hs_62 rfl rfl (by kernel_rfl) rfl (same_g g_4 g_23 ob_47 ob_24 n_48 n m_46 l w_60 hk9m_46.rise hk9.rise) ?_
        rintro v_ Q_ w_63 ⟨rfl, rfl⟩ hs_65
        have hs_65 : SH [] w w_63 [pt g_4 #[.map ob_47] 35, oH ob_47 n_48 (macD m_46), pt g_23 #[.map ob_24] 35, oH ob_24 n (macD l), rowH 77 2 a (l).length ca (mcells l), rowH 77 2 a_49 (m_46).length c_50 (mcells m_46)] := hs_65
        refine SL.go ?_
        refine SL.v (.slice a_49 ((m_46).length) c_50) ?_
        refine SL.go ?_
        refine SL.v (.slice a ((l).length) ca) ?_
        refine SL.go ?_
        refine SL.callH (f := 18) (args := #[.slice a_49 ((m_46).length) c_50, .slice a ((l).length) ca]) (Pre := [rowH 77 2 a_49 (m_46).length c_50 (mcells m_46), rowH 77 2 a (l).length ca (mcells l)]) (Rest := [pt g_4 #[.map ob_47] 35, oH ob_47 n_48 (macD m_46), pt g_23 #[.map ob_24] 35, oH ob_24 n (macD l)]) [5, 4] hs_65 rfl rfl (by kernel_rfl) rfl (rsame_tr a_49 a c_50 ca m_46 l w_63 (by omega) (by omega) (fun k => ⟨mac_wf hk9m_46 k, Nat.le_trans (mac_len hk9m_46 k) (by decide)⟩) (fun k => ⟨mac_wf hk9 k, Nat.le_trans (mac_len hk9 k) (by decide)⟩)) ?_
        rintro v_ Q_ w_66 ⟨rfl, rfl⟩ hs_68
        have hs_68 : SH [] w w_66 [rowH 77 2 a_49 (m_46).length c_50 (mcells m_46), rowH 77 2 a (l).length ca (mcells l), pt g_4 #[.map ob_47] 35, oH ob_47 n_48 (macD m_46), pt g_23 #[.map ob_24] 35, oH ob_24 n (macD l)] := hs_68
        refine SL.go ?_
        refine SL.val (v := .bool false) (w' := w_66) rfl rfl (run_boolne (a := decide (m_46 = l)) (b := decide (m_46 = l)) (c := false) rfl (by kernel_rfl) (by kernel_rfl) (by kernel_rfl) (by cases (decide (m_46 = l)) <;> rfl)) ?_
        refine SL.v (.bool false) ?_
        refine SL.nil ?_
        refine CW.cond_false (by kernel_rfl) ?_
        refine CW.skip ?_
        refine CW.region ?_
        refine SL.v (.slice a_49 ((m_46).length) c_50) ?_
        refine SL.v (.slice a_49 ((m_46).length) c_50) ?_
        refine SL.nil ?_
        refine CW.region ?_
        refine SL.v (.int .i64 ((k : Nat) : Int)) ?_
        refine SL.val (v := .int .i64 ((k + 1 : Nat) : Int)) (w' := w_66) rfl rfl (by have hw : IntKind.i64.wrap (((k : Nat) : Int) + 1) = ((k + 1 : Nat) : Int) := (IntWalk.i64_in _ (by omega)).trans (by omega); exact run_eqv (by kernel_rfl) (congrArg (fun z => Value.int .i64 z) hw)) ?_
        refine SL.v (.int .i64 ((k + 1 : Nat) : Int)) ?_
        refine SL.nil ?_
        exact ⟨_, ⟨k + 1, ob_47, n_48, m_46, a_49, c_50, rfl, (hs_68.pick [2, 2, 0] rfl), (by omega), hk9m_46, (by kernel_rfl), (by kernel_rfl), (by kernel_rfl), (by kernel_rfl), (by kernel_rfl), (by kernel_rfl)⟩, by omega⟩
    · try rw [hb_22]
      have hqhb_22 := of_decide_eq_false hb_22
      refine CW.cond_false (by kernel_rfl) ?_
      refine CW.exit ?_
      repeat with_reducible first | refine PThen.exit ?_ | refine PBlock.out rfl ?_
      with_reducible refine PBlock.here ?_
      repeat with_reducible refine PBlock.normal ?_
      refine CW.seq ?_
      refine CW.region ?_
      refine SL.v (.int .i64 i1) ?_
      refine SL.callH (f := 19) (args := #[.pointer (some ⟨g_4, 0, none⟩), .int .i64 i1]) (Pre := [pt g_4 #[.map ob] 35, oH ob n (macD l)]) (Rest := [rowH 77 2 a (l).length ca (mcells l)]) [0, 0] hs_12 rfl rfl (by kernel_rfl) rfl (get_o g_4 ob n l i1 w_11 hwf) ?_
      rintro v_ Q_ w_69 ⟨rfl, rfl⟩ hs_71
      have hs_71 : SH [] w w_69 [pt g_4 #[.map ob] 35, oH ob n (macD l), rowH 77 2 a (l).length ca (mcells l)] := hs_71
      refine SL.v (.tuple #[.string (bsl ((getL l i1).getD [])), .bool ((getL l i1).isSome)]) ?_
      refine SL.v (.string (bsl ((getL l i1).getD []))) ?_
      refine SL.v (.bool ((getL l i1).isSome)) ?_
      refine SL.v (.string (bsl ((getL l i1).getD []))) ?_
      refine SL.v (.bool ((getL l i1).isSome)) ?_
      refine SL.nil ?_
      refine CW.seq ?_
      refine CW.region ?_
      refine SL.v (.slice a ((l).length) ca) ?_
      refine SL.v (.int .i64 i1) ?_
      refine SL.callH (f := 20) (args := #[.slice a ((l).length) ca, .int .i64 i1]) (Pre := [rowH 77 2 a (l).length ca (mcells l)]) (Rest := [pt g_4 #[.map ob] 35, oH ob n (macD l)]) [2] hs_71 rfl rfl (by kernel_rfl) rfl (rget_tr a ca l i1 w_69 (by omega)) ?_
      rintro v_ Q_ w_72 ⟨rfl, rfl⟩ hs_74
      have hs_74 : SH [] w w_72 [rowH 77 2 a (l).length ca (mcells l), pt g_4 #[.map ob] 35, oH ob n (macD l)] := hs_74
      refine SL.v (.tuple #[.string (bsl ((getL l i1).getD [])), .bool ((getL l i1).isSome)]) ?_
      refine SL.v (.string (bsl ((getL l i1).getD []))) ?_
      refine SL.v (.bool ((getL l i1).isSome)) ?_
      refine SL.v (.string (bsl ((getL l i1).getD []))) ?_
      refine SL.v (.bool ((getL l i1).isSome)) ?_
      refine SL.nil ?_
      refine CW.seq ?_
      refine CW.region ?_
      refine SL.v (.string (bsl ((getL l i1).getD []))) ?_
      refine SL.v (.string (bsl ((getL l i1).getD []))) ?_
      refine SL.val (v := .bool true) (w' := w_72) rfl rfl (run_streqB (a := bsl ((getL l i1).getD [])) (b := bsl ((getL l i1).getD [])) (c := true) rfl (by kernel_rfl) (by kernel_rfl) (seqB_self _)) ?_
      refine SL.v (.bool true) ?_
      refine SL.go ?_
      refine SL.v (.bool ((getL l i1).isSome)) ?_
      refine SL.go ?_
      refine SL.v (.bool ((getL l i1).isSome)) ?_
      refine SL.go ?_
      refine SL.val (v := .bool true) (w' := w_72) rfl rfl (run_booleq (a := (getL l i1).isSome) (b := (getL l i1).isSome) (c := true) rfl (by kernel_rfl) (by kernel_rfl) (by kernel_rfl) (by cases ((getL l i1).isSome) <;> rfl)) ?_
      refine SL.v (.bool true) ?_
      refine SL.v (.bool true) ?_
      refine SL.nil ?_
      refine CW.ret ?_
      repeat with_reducible first | refine PThen.ret ?_ | refine PBlock.ret ?_
      refine PRet.tmp (t := 4) (v := .bool true) rfl rfl (by kernel_rfl) ?_
      exact ⟨rfl, hs_74.gr⟩
  · try rw [hb_21]
    have hqhb_21 := of_decide_eq_false hb_21
    refine SL.no false ?_
    refine SL.no false ?_
    refine SL.v (.bool false) ?_
    refine SL.nil ?_
    refine CW.cond_false (by kernel_rfl) ?_
    refine CW.exit ?_
    repeat with_reducible first | refine PThen.exit ?_ | refine PBlock.out rfl ?_
    with_reducible refine PBlock.here ?_
    repeat with_reducible refine PBlock.normal ?_
    refine CW.seq ?_
    refine CW.region ?_
    refine SL.v (.int .i64 i1) ?_
    refine SL.callH (f := 19) (args := #[.pointer (some ⟨g_4, 0, none⟩), .int .i64 i1]) (Pre := [pt g_4 #[.map ob] 35, oH ob n (macD l)]) (Rest := [rowH 77 2 a (l).length ca (mcells l)]) [0, 0] hs_12 rfl rfl (by kernel_rfl) rfl (get_o g_4 ob n l i1 w_11 hwf) ?_
    rintro v_ Q_ w_75 ⟨rfl, rfl⟩ hs_77
    have hs_77 : SH [] w w_75 [pt g_4 #[.map ob] 35, oH ob n (macD l), rowH 77 2 a (l).length ca (mcells l)] := hs_77
    refine SL.v (.tuple #[.string (bsl ((getL l i1).getD [])), .bool ((getL l i1).isSome)]) ?_
    refine SL.v (.string (bsl ((getL l i1).getD []))) ?_
    refine SL.v (.bool ((getL l i1).isSome)) ?_
    refine SL.v (.string (bsl ((getL l i1).getD []))) ?_
    refine SL.v (.bool ((getL l i1).isSome)) ?_
    refine SL.nil ?_
    refine CW.seq ?_
    refine CW.region ?_
    refine SL.v (.slice a ((l).length) ca) ?_
    refine SL.v (.int .i64 i1) ?_
    refine SL.callH (f := 20) (args := #[.slice a ((l).length) ca, .int .i64 i1]) (Pre := [rowH 77 2 a (l).length ca (mcells l)]) (Rest := [pt g_4 #[.map ob] 35, oH ob n (macD l)]) [2] hs_77 rfl rfl (by kernel_rfl) rfl (rget_tr a ca l i1 w_75 (by omega)) ?_
    rintro v_ Q_ w_78 ⟨rfl, rfl⟩ hs_80
    have hs_80 : SH [] w w_78 [rowH 77 2 a (l).length ca (mcells l), pt g_4 #[.map ob] 35, oH ob n (macD l)] := hs_80
    refine SL.v (.tuple #[.string (bsl ((getL l i1).getD [])), .bool ((getL l i1).isSome)]) ?_
    refine SL.v (.string (bsl ((getL l i1).getD []))) ?_
    refine SL.v (.bool ((getL l i1).isSome)) ?_
    refine SL.v (.string (bsl ((getL l i1).getD []))) ?_
    refine SL.v (.bool ((getL l i1).isSome)) ?_
    refine SL.nil ?_
    refine CW.seq ?_
    refine CW.region ?_
    refine SL.v (.string (bsl ((getL l i1).getD []))) ?_
    refine SL.v (.string (bsl ((getL l i1).getD []))) ?_
    refine SL.val (v := .bool true) (w' := w_78) rfl rfl (run_streqB (a := bsl ((getL l i1).getD [])) (b := bsl ((getL l i1).getD [])) (c := true) rfl (by kernel_rfl) (by kernel_rfl) (seqB_self _)) ?_
    refine SL.v (.bool true) ?_
    refine SL.go ?_
    refine SL.v (.bool ((getL l i1).isSome)) ?_
    refine SL.go ?_
    refine SL.v (.bool ((getL l i1).isSome)) ?_
    refine SL.go ?_
    refine SL.val (v := .bool true) (w' := w_78) rfl rfl (run_booleq (a := (getL l i1).isSome) (b := (getL l i1).isSome) (c := true) rfl (by kernel_rfl) (by kernel_rfl) (by kernel_rfl) (by cases ((getL l i1).isSome) <;> rfl)) ?_
    refine SL.v (.bool true) ?_
    refine SL.v (.bool true) ?_
    refine SL.nil ?_
    refine CW.ret ?_
    repeat with_reducible first | refine PThen.ret ?_ | refine PBlock.ret ?_
    refine PRet.tmp (t := 4) (v := .bool true) rfl rfl (by kernel_rfl) ?_
    exact ⟨rfl, hs_80.gr⟩
/-- What the fields of an act hold. -/
def actU : Nat → Value → Prop
  | 0, v => ∃ z, v = .int .i64 z ∧ (Lit.int .i64 z).wf = true
  | 1, v => ∃ b, v = .bool b
  | 2, v => ∃ b, v = .bool b
  | 3, v => ∃ s : ByteArray, v = .string s ∧ s.size ≤ maxLen
  | _, _ => True
set_option maxRecDepth 100000 in
theorem open_macts {H : Type} {enc : TypeId × Value → H} {w : World} {base b0 : Nat} {spare : Nat → Bool} {held : Bool} {r : Reach} {v : Value} {d : DataW H} {p : List MemPlace}
    (hv : Value.okWide Try.prog w r b0 42 v) (h : DataW.Trod enc Try.prog w base spare held 42 v d p) :
    ∃ (a : Option Addr) (len cap : Nat), v = .slice a len cap ∧ IsStructs w a len 4 actU := by
  obtain ⟨a, len, cap, rfl⟩ := okWide_slice Try.underlying42 hv
  obtain ⟨fuel, hf⟩ := h
  refine ⟨a, len, cap, rfl, ?_⟩
  refine open_structs Try.underlying42 Try.underlying47 (by kernel_rfl) (by kernel_rfl) (by decide) actU ?_ (a := a) (len := len) (cap := cap) (by simp [Value.cells]) hf
  intro j f v n y hj ht
  match j, hj with
  | 0, hj => injection hj with hj; subst hj; exact field_int Try.underlying3 ht
  | 1, hj => injection hj with hj; subst hj; exact field_bool Try.underlying4 ht
  | 2, hj => injection hj with hj; subst hj; exact field_bool Try.underlying4 ht
  | 3, hj => injection hj with hj; subst hj; exact field_string Try.underlying9 ht
  | _ + 4, hj => simp at hj
theorem cell_rowA {w : World} {b o : Nat} {v : Value} (h : w.cell? ⟨b, o, none⟩ = some v) : ∃ C T fr, w.heap[b]? = some (.cells C T fr) ∧ C[o]? = some v := by
  unfold World.cell? at h
  simp only at h
  split at h
  · rename_i C T fr hb
    exact ⟨C, T, fr, hb, h⟩
  · cases h
theorem acts_of {w : World} {a : Option Addr} {n : Nat} (h : IsStructs w a n 4 actU) (hn : 0 < n) : ∃ (b off : Nat) (C : Array Value) (T : TypeId) (fr : Nat × Nat) (acts : List ActD), a = some ⟨b, off, none⟩ ∧ acts.length = n ∧ w.heap[b]? = some (.cells C T fr) ∧
    ∀ i, i < acts.length → (C.toList.drop (off + i * 4)).take 4 = actC (acts.getD i act0) ∧ (Lit.int .i64 (acts.getD i act0).i).wf = true ∧ (acts.getD i act0).d.length ≤ maxLen := by
  rcases h.2 with h0 | ⟨b, off, ha, hb, hc⟩
  · omega
  obtain ⟨v, hv, _⟩ := hc 0 0 hn (by omega)
  obtain ⟨C, T, fr, hB, _⟩ := cell_rowA hv
  have hcell : ∀ i j, i < n → j < 4 → ∃ v, C[off + (i * 4 + j)]? = some v ∧ actU j v := by
    intro i j hi hj
    obtain ⟨v, hv, hf⟩ := hc i j hi hj
    obtain ⟨C', T', fr', hB', hC⟩ := cell_rowA hv
    rw [hB] at hB'
    simp only [Option.some.injEq, Obj.cells.injEq] at hB'
    rw [← hB'.1] at hC
    exact ⟨v, hC, hf⟩
  have hev : ∀ i : Fin n, ∃ e : ActD, (C.toList.drop (off + i.val * 4)).take 4 = actC e ∧ (Lit.int .i64 e.i).wf = true ∧ e.d.length ≤ maxLen := by
    intro ⟨i, hi⟩
    obtain ⟨v0, x0, z, rfl, hz⟩ := hcell i 0 hi (by omega)
    obtain ⟨v1, x1, c, rfl⟩ := hcell i 1 hi (by omega)
    obtain ⟨v2, x2, s, rfl⟩ := hcell i 2 hi (by omega)
    obtain ⟨v3, x3, t, rfl, ht⟩ := hcell i 3 hi (by omega)
    refine ⟨⟨z, c, s, t.data.toList⟩, ?_, hz, by have := bsl_size t.data.toList; rw [← bsl_of] at this; show t.data.toList.length ≤ maxLen; omega⟩
    refine List.ext_getElem? fun q => ?_
    rw [List.getElem?_take, List.getElem?_drop]
    by_cases hq : q < 4
    · rw [if_pos hq, Array.getElem?_toList, show off + i * 4 + q = off + (i * 4 + q) by omega]
      match q, hq with
      | 0, _ => exact x0
      | 1, _ => exact x1
      | 2, _ => exact x2
      | 3, _ => rw [x3]; show some (Value.string t) = some (.string (bsl t.data.toList)); rw [← bsl_of]
    · rw [if_neg hq, List.getElem?_eq_none (by show 4 ≤ q; omega)]
  refine ⟨b, off, C, T, fr, List.ofFn fun i => Classical.choose (hev i), ha, by simp, hB, fun i hi => ?_⟩
  have hi' : i < n := by simpa using hi
  have e : (List.ofFn fun i => Classical.choose (hev i)).getD i act0 = Classical.choose (hev ⟨i, hi'⟩) := by
    rw [List.getD_eq_getElem?_getD, List.getElem?_eq_getElem hi, Option.getD_some, List.getElem_ofFn]
  rw [e]
  exact Classical.choose_spec (hev ⟨i, hi'⟩)
theorem stores_law (a : Option Addr) (n cp : Nat) (i1 : Int) (w : World) (hacts : IsStructs w a n 4 actU) (hwf : (Lit.int .i64 i1).wf = true) (hsh : w.ShapedOpen Try.prog) :
    Calls Try.prog 6 #[.slice a n cp, .int .i64 i1] w fun e w' => e = .returned (.bool true) ∧ Gr w w' := by
  have hM := MaxOk.of hsh
  rcases Nat.eq_zero_or_pos n with rfl | hn
  · exact stores_0 a cp i1 w hwf hM
  · obtain ⟨b, off, C, T, fr, acts, rfl, rfl, hb, hev⟩ := acts_of hacts hn
    have hmx := hacts.1
    exact stores_n b off cp C T fr acts i1 w hwf hM hb hev (by unfold maxLen at hmx; omega)
end Go.Proofs.Ytaeppimldbknhaa
