/-
  The law MergeOrders, walked (gen_mgv.py).
-/
import Derived.Test.YtaelmkkobjdgbaaZMgU
namespace Go.Proofs.Ytaelmkkobjdgbaa
set_option linter.unusedSimpArgs false
set_option linter.unusedVariables false
open Go.RowKit
set_option linter.unusedVariables false

theorem msteps_tr (ao : Option Addr) (co : Nat) (O : List LE) (w : World) (hO : OutAt w ao O) (hLI : LI O w) (hn9 : O.length ≤ 1000) (ht9 : totQ (headsF 0 O) ≤ 100000) : Tr Try.prog 10 #[.slice ao O.length co] w [] (fun v Q => ∃ ps, v = .int .i64 ((chg ps ps.length : Nat) : Int) ∧ MRel (headsF 0 O) (ordP ps) ∧ Q = []) :=
  Tr.of0 ((msteps_f ao co O w hO hLI hn9 ht9).mono fun e w' h => by
    obtain ⟨ps, rfl, h1, hg⟩ := h
    exact ⟨_, _, rfl, ⟨ps, rfl, h1, rfl⟩, (SH.none w).grow hg⟩)
set_option maxRecDepth 100000 in
set_option maxHeartbeats 16000000 in
theorem orders_law (sa : Option Addr) (sc : Nat) (L0 : List LE) (w : World) (hN : NestIn w sa L0) : Calls Try.prog 4 #[.slice sa L0.length sc] w fun e w' => e = .returned (.bool true) ∧ Gr w w' := by
  refine calls_sx (n := 121) (args := [.slice sa L0.length sc]) Try.func4 rfl rfl rfl ?_
  have hs0 := SH.none w
  refine CW.seq ?_
  refine CW.region ?_
  refine SL.v (.bool false) ?_
  refine SL.nil ?_
  refine CW.seq ?_
  refine CW.seq ?_
  refine CW.region ?_
  refine SL.call (f := 5) (args := #[]) (w1 := w) rfl rfl (by kernel_rfl) (awake26 w) ?_
  rintro x w_1 ⟨rfl, hc_2⟩
  refine ⟨.bool true, rfl, ?_⟩
  have hs_3 := hs0.grow hc_2
  refine SL.v (.bool false) ?_
  refine SL.nil ?_
  refine CW.cond_false (by kernel_rfl) ?_
  refine CW.skip ?_
  refine CW.seq ?_
  refine CW.region ?_
  refine SL.v (.slice sa L0.length sc) ?_
  refine SL.call (f := 6) (args := #[.slice sa L0.length sc]) (w1 := w_1) rfl rfl (by kernel_rfl) (few_fact2 sa sc L0 w_1 (hN.gr hs_3.gr)) ?_
  rintro x w_4 ⟨F, aF, cF, rfl, hspF, hOut, hLF, hKW, hc_5⟩
  refine ⟨_, rfl, ?_⟩
  have hs_6 := hs_3.grow hc_5
  have hG_7 := hs_6.gr
  have hs_8 := SH.none w_4
  obtain ⟨hF8, hF12⟩ := few_bounds hspF
  refine SL.v (.slice aF ((F).length) cF) ?_
  refine SL.nil ?_
  refine CW.seq ?_
  refine CW.region ?_
  refine SL.v (.slice aF ((F).length) cF) ?_
  have hOut9 := hOut.gr hs_8.gr
  have hLF9 := hLF.gr hs_8.gr
  refine SL.call (f := 8) (args := #[.slice aF ((F).length) cF]) (w1 := w_4) rfl rfl (by kernel_rfl) (own_fact aF cF F w_4 hOut9 hLF9.1 hF8 hF12) ?_
  rintro x w_9 ⟨O, aO, cO, rfl, hspO, hOutO, hLFO, hLIO, hc_10⟩
  refine ⟨_, rfl, ?_⟩
  have hs_11 := hs_8.grow hc_10
  have hG_12 := (hG_7.trans hs_11.gr)
  have hs_13 := SH.none w_9
  have hOut := hOut9.gr hc_10
  have hLF := hLF9.gr hc_10
  have hlens9 := lens_of hspO
  have hOl9 : O.length = F.length := by have h_ := congrArg List.length hspO; rw [List.length_map, List.length_map] at h_; exact h_
  have hto8 := sum_le 12 (l := F.map fun e => e.xs.length) (fun x hx => by obtain ⟨y, hy, rfl⟩ := List.mem_map.1 hx; exact (hF12 y hy).1)
  rw [List.length_map] at hto8
  have hto9 : totQ (headsF 0 O) ≤ 100000 := by rw [totQ_heads, hlens9]; omega
  have hto7 : totQ (headsF 0 F) ≤ 100000 := by rw [totQ_heads]; omega
  refine SL.v (.slice aO ((O).length) cO) ?_
  refine SL.nil ?_
  refine CW.seq ?_
  refine CW.region ?_
  refine SL.v (.slice aO ((O).length) cO) ?_
  refine SL.callH (f := 7) (args := #[.slice aO ((O).length) cO]) (Pre := []) (Rest := []) [] hs_13 rfl rfl (by kernel_rfl) rfl (merge_f aO cO O w_9 (hOutO.gr hs_13.gr) (hLIO.gr hs_13.gr) (by omega) hto9) ?_
  rintro v_ Q_ w_14 ⟨ag, cg, ps, rfl, hrel1, hlen1, rfl⟩ hs_16
  have hs_16 : SH [] w_9 w_14 [rowH 39 10 ag (ps).length cg (pcells ps), allH ((ps).map clH)] := hs_16
  refine SL.v (.slice aF ((F).length) cF) ?_
  refine SL.callH (f := 9) (args := #[.slice aF ((F).length) cF]) (Pre := []) (Rest := [rowH 39 10 ag (ps).length cg (pcells ps), allH ((ps).map clH)]) [] hs_16 rfl rfl (by kernel_rfl) rfl (rmerge_tr aF cF F w_14 (hOut.gr hs_16.gr) (hLF.gr hs_16.gr) (by omega) hto7) ?_
  rintro v_ Q_ w_17 ⟨aw9, cw9, qs, rfl, hrel2, hlen2, hpa9, rfl⟩ hs_19
  have hs_19 : SH [] w_9 w_17 [rowH 46 10 aw9 (qs).length cw9 (pcells qs), rowH 39 10 ag (ps).length cg (pcells ps), allH ((ps).map clH)] := hs_19
  have hall9 := ord_all (MRel.uniq2 hrel1 hrel2 (by rw [heads_bq hspO]) (headsF_nums _ _))
  obtain ⟨hpq9, hall9⟩ := hall9
  refine SL.v (.slice ag ((ps).length) cg) ?_
  refine SL.v (.slice aw9 ((qs).length) cw9) ?_
  refine SL.nil ?_
  refine CW.seq ?_
  refine CW.seq ?_
  refine CW.region ?_
  refine SL.v (.slice ag ((ps).length) cg) ?_
  refine SL.val (v := .int .i64 (((ps).length : Nat) : Int)) (w' := w_17) rfl rfl (by kernel_rfl) ?_
  refine SL.v (.slice aw9 ((qs).length) cw9) ?_
  refine SL.val (v := .int .i64 (((qs).length : Nat) : Int)) (w' := w_17) rfl rfl (by kernel_rfl) ?_
  refine SL.val (v := .bool false) (w' := w_17) rfl rfl (run_eqv (by kernel_rfl) (congrArg Value.bool (show (!((((ps).length : Nat) : Int) == (((qs).length : Nat) : Int))) = (false) from (by rw [hpq9]; simp)))) ?_
  refine SL.v (.bool false) ?_
  refine SL.go ?_
  refine SL.v (.slice aO ((O).length) cO) ?_
  refine SL.go ?_
  refine SL.callH (f := 10) (args := #[.slice aO ((O).length) cO]) (Pre := []) (Rest := [rowH 46 10 aw9 (qs).length cw9 (pcells qs), rowH 39 10 ag (ps).length cg (pcells ps), allH ((ps).map clH)]) [] hs_19 rfl rfl (by kernel_rfl) rfl (msteps_tr aO cO O w_17 (hOutO.gr hs_19.gr) (hLIO.gr hs_19.gr) (by omega) hto9) ?_
  rintro v_ Q_ w_20 ⟨ps2, rfl, hrel3, rfl⟩ hs_22
  have hs_22 : SH [] w_9 w_20 [rowH 46 10 aw9 (qs).length cw9 (pcells qs), rowH 39 10 ag (ps).length cg (pcells ps), allH ((ps).map clH)] := hs_22
  obtain ⟨hpq8, hall8⟩ := ord_all (MRel.uniq2 hrel3 hrel2 (by rw [heads_bq hspO]) (headsF_nums _ _))
  have hchg9 : chg ps2 ps2.length = chg qs qs.length := by rw [hpq8]; exact chg_congr (fun i => (hall8 i).1) _
  refine SL.go ?_
  refine SL.v (.slice aw9 ((qs).length) cw9) ?_
  refine SL.go ?_
  refine SL.callH (f := 11) (args := #[.slice aw9 ((qs).length) cw9]) (Pre := [rowH 46 10 aw9 (qs).length cw9 (pcells qs)]) (Rest := [rowH 39 10 ag (ps).length cg (pcells ps), allH ((ps).map clH)]) [0] hs_22 rfl rfl (by kernel_rfl) rfl (rsteps_tr aw9 cw9 qs w_20 (by omega)) ?_
  rintro v_ Q_ w_23 ⟨rfl, rfl⟩ hs_25
  have hs_25 : SH [] w_9 w_23 [rowH 46 10 aw9 (qs).length cw9 (pcells qs), rowH 39 10 ag (ps).length cg (pcells ps), allH ((ps).map clH)] := hs_25
  refine SL.go ?_
  refine SL.val (v := .bool false) (w' := w_23) rfl rfl (run_eqv (by kernel_rfl) (congrArg Value.bool (show (!(((chg ps2 ps2.length : Nat) : Int) == ((chg qs qs.length : Nat) : Int))) = (false) from (by rw [hchg9]; simp)))) ?_
  refine SL.v (.bool false) ?_
  refine SL.nil ?_
  refine CW.cond_false (by kernel_rfl) ?_
  refine CW.skip ?_
  refine CW.seq ?_
  refine CW.seq ?_
  refine CW.region ?_
  refine SL.v (.slice ag ((ps).length) cg) ?_
  refine SL.val (v := .int .i64 (((ps).length : Nat) : Int)) (w' := w_23) rfl rfl (by kernel_rfl) ?_
  refine SL.v (.int .i64 0) ?_
  refine SL.nil ?_
  refine CW.block ?_
  refine CW.loopI (fun m_ e9 w9 => ∃ (i : Nat), m_ = (ps).length - i ∧ SH [] w_9 w9 [rowH 39 10 ag (ps).length cg (pcells ps), allH ((ps).map clH), rowH 46 10 aw9 (qs).length cw9 (pcells qs)] ∧ (i ≤ (ps).length) ∧ e9 0 = .slice aF ((F).length) cF ∧ e9 2 = .bool false ∧ e9 3 = .slice aO ((O).length) cO ∧ e9 4 = .slice ag ((ps).length) cg ∧ e9 5 = .slice aw9 ((qs).length) cw9 ∧ e9 35 = .int .i64 (((ps).length : Nat) : Int) ∧ e9 36 = .int .i64 ((i : Nat) : Int)) ⟨_, 0, rfl, (hs_25.pick [1, 1, 0] rfl), (Nat.zero_le _), (by kernel_rfl), (by kernel_rfl), (by kernel_rfl), (by kernel_rfl), (by kernel_rfl), (by kernel_rfl), (by kernel_rfl)⟩ ?_
  rintro m_26 e_27 w_28 ⟨i, hm_30, hs_29, hi, hv_31, hv_32, hv_33, hv_34, hv_35, hv_36, hv_37⟩
  obtain ⟨e_38, rfl⟩ : ∃ e_38, e_27 = put1 (put1 (put1 (put1 (put1 (put1 (put1 e_38 0 (.slice aF ((F).length) cF)) 2 (.bool false)) 3 (.slice aO ((O).length) cO)) 4 (.slice ag ((ps).length) cg)) 5 (.slice aw9 ((qs).length) cw9)) 35 (.int .i64 (((ps).length : Nat) : Int))) 36 (.int .i64 ((i : Nat) : Int)) := ⟨e_27, (put_self hv_37).trans (congrArg (fun z => put1 z 36 (.int .i64 ((i : Nat) : Int))) ((put_self hv_36).trans (congrArg (fun z => put1 z 35 (.int .i64 (((ps).length : Nat) : Int))) ((put_self hv_35).trans (congrArg (fun z => put1 z 5 (.slice aw9 ((qs).length) cw9)) ((put_self hv_34).trans (congrArg (fun z => put1 z 4 (.slice ag ((ps).length) cg)) ((put_self hv_33).trans (congrArg (fun z => put1 z 3 (.slice aO ((O).length) cO)) ((put_self hv_32).trans (congrArg (fun z => put1 z 2 (.bool false)) (put_self hv_31))))))))))))⟩
  clear hv_31 hv_32 hv_33 hv_34 hv_35 hv_36 hv_37
  refine CW.seq ?_
  refine CW.region ?_
  refine SL.v (.bool (decide (((i : Nat) : Int) < (((ps).length : Nat) : Int)))) ?_
  refine SL.nil ?_
  refine CW.seq ?_
  rcases Bool.eq_false_or_eq_true (decide (((i : Nat) : Int) < (((ps).length : Nat) : Int))) with hb_39 | hb_39
  · try rw [hb_39]
    have hqhb_39 := of_decide_eq_true hb_39
    refine CW.cond_true (by kernel_rfl) ?_
    refine CW.skip ?_
    refine CW.seq ?_
    refine CW.block ?_
    refine CW.seq ?_
    refine CW.region ?_
    refine SL.v (.int .i64 ((i : Nat) : Int)) ?_
    refine SL.v (.int .i64 ((i : Nat) : Int)) ?_
    refine SL.nil ?_
    refine CW.seq ?_
    obtain ⟨g_40, ha_41⟩ := hs_29.row_some (i := 0) rfl (show 0 < (ps).length by omega)
    obtain ⟨g_42, ha_43⟩ := hs_29.row_some (i := 2) rfl (show 0 < (qs).length by omega)
    have HGR : GrL [fun v _ => v = .slice ag ((ps).length) cg, fun v _ => v = .int .i64 ((i : Nat) : Int), fun v _ => v = .pointer (some ⟨g_40, i * 10, none⟩), fun v _ => v = .pointer (some ⟨g_40, i * 10 + 9, none⟩), fun v _ => v = .int .i64 (((ps.getD i pl0).n : Nat) : Int), fun v _ => v = .slice aw9 ((qs).length) cw9, fun v _ => v = .int .i64 ((i : Nat) : Int), fun v _ => v = .pointer (some ⟨g_42, i * 10, none⟩), fun v _ => v = .pointer (some ⟨g_42, i * 10 + 9, none⟩), fun v _ => v = .int .i64 (((qs.getD i pl0).n : Nat) : Int), fun v _ => v = .bool false, fun v _ => v = .bool false, fun v _ => v = .slice ag ((ps).length) cg, fun v _ => v = .int .i64 ((i : Nat) : Int), fun v _ => v = .pointer (some ⟨g_40, i * 10, none⟩), fun v _ => v = .pointer (some ⟨g_40, i * 10, none⟩), fun v _ => v = .agg #[.int .i64 ((ps.getD i pl0).x.at_), .int .i64 ((ps.getD i pl0).x.kd), .slice ((ps.getD i pl0).a) ((ps.getD i pl0).x.bs.length) ((ps.getD i pl0).c), .int .i64 ((ps.getD i pl0).x.k0), .int .u8 ((ps.getD i pl0).x.k1), .bool ((ps.getD i pl0).x.k2), .bool ((ps.getD i pl0).x.k3), .int .i64 ((ps.getD i pl0).x.rw_), .int .i64 ((ps.getD i pl0).x.cl)], fun v _ => v = .agg #[.int .i64 ((ps.getD i pl0).x.at_), .int .i64 ((ps.getD i pl0).x.kd), .slice ((ps.getD i pl0).a) ((ps.getD i pl0).x.bs.length) ((ps.getD i pl0).c), .int .i64 ((ps.getD i pl0).x.k0), .int .u8 ((ps.getD i pl0).x.k1), .bool ((ps.getD i pl0).x.k2), .bool ((ps.getD i pl0).x.k3), .int .i64 ((ps.getD i pl0).x.rw_), .int .i64 ((ps.getD i pl0).x.cl)], fun v _ => v = .slice aw9 ((qs).length) cw9, fun v _ => v = .int .i64 ((i : Nat) : Int), fun v _ => v = .pointer (some ⟨g_42, i * 10, none⟩), fun v _ => v = .pointer (some ⟨g_42, i * 10, none⟩), fun v _ => v = .agg #[.int .i64 ((qs.getD i pl0).x.at_), .int .i64 ((qs.getD i pl0).x.kd), .slice ((qs.getD i pl0).a) ((qs.getD i pl0).x.bs.length) ((qs.getD i pl0).c), .int .i64 ((qs.getD i pl0).x.k0), .int .u8 ((qs.getD i pl0).x.k1), .bool ((qs.getD i pl0).x.k2), .bool ((qs.getD i pl0).x.k3), .int .i64 ((qs.getD i pl0).x.rw_), .int .i64 ((qs.getD i pl0).x.cl)]] := ⟨fun _ _ _ _ h => h, ⟨fun _ _ _ _ h => h, ⟨fun _ _ _ _ h => h, ⟨fun _ _ _ _ h => h, ⟨fun _ _ _ _ h => h, ⟨fun _ _ _ _ h => h, ⟨fun _ _ _ _ h => h, ⟨fun _ _ _ _ h => h, ⟨fun _ _ _ _ h => h, ⟨fun _ _ _ _ h => h, ⟨fun _ _ _ _ h => h, ⟨fun _ _ _ _ h => h, ⟨fun _ _ _ _ h => h, ⟨fun _ _ _ _ h => h, ⟨fun _ _ _ _ h => h, ⟨fun _ _ _ _ h => h, ⟨fun _ _ _ _ h => h, ⟨fun _ _ _ _ h => h, ⟨fun _ _ _ _ h => h, ⟨fun _ _ _ _ h => h, ⟨fun _ _ _ _ h => h, ⟨fun _ _ _ _ h => h, ⟨fun _ _ _ _ h => h, trivial⟩⟩⟩⟩⟩⟩⟩⟩⟩⟩⟩⟩⟩⟩⟩⟩⟩⟩⟩⟩⟩⟩⟩
    refine CW.draw 23 (FW [fun v _ => v = .slice ag ((ps).length) cg, fun v _ => v = .int .i64 ((i : Nat) : Int), fun v _ => v = .pointer (some ⟨g_40, i * 10, none⟩), fun v _ => v = .pointer (some ⟨g_40, i * 10 + 9, none⟩), fun v _ => v = .int .i64 (((ps.getD i pl0).n : Nat) : Int), fun v _ => v = .slice aw9 ((qs).length) cw9, fun v _ => v = .int .i64 ((i : Nat) : Int), fun v _ => v = .pointer (some ⟨g_42, i * 10, none⟩), fun v _ => v = .pointer (some ⟨g_42, i * 10 + 9, none⟩), fun v _ => v = .int .i64 (((qs.getD i pl0).n : Nat) : Int), fun v _ => v = .bool false, fun v _ => v = .bool false, fun v _ => v = .slice ag ((ps).length) cg, fun v _ => v = .int .i64 ((i : Nat) : Int), fun v _ => v = .pointer (some ⟨g_40, i * 10, none⟩), fun v _ => v = .pointer (some ⟨g_40, i * 10, none⟩), fun v _ => v = .agg #[.int .i64 ((ps.getD i pl0).x.at_), .int .i64 ((ps.getD i pl0).x.kd), .slice ((ps.getD i pl0).a) ((ps.getD i pl0).x.bs.length) ((ps.getD i pl0).c), .int .i64 ((ps.getD i pl0).x.k0), .int .u8 ((ps.getD i pl0).x.k1), .bool ((ps.getD i pl0).x.k2), .bool ((ps.getD i pl0).x.k3), .int .i64 ((ps.getD i pl0).x.rw_), .int .i64 ((ps.getD i pl0).x.cl)], fun v _ => v = .agg #[.int .i64 ((ps.getD i pl0).x.at_), .int .i64 ((ps.getD i pl0).x.kd), .slice ((ps.getD i pl0).a) ((ps.getD i pl0).x.bs.length) ((ps.getD i pl0).c), .int .i64 ((ps.getD i pl0).x.k0), .int .u8 ((ps.getD i pl0).x.k1), .bool ((ps.getD i pl0).x.k2), .bool ((ps.getD i pl0).x.k3), .int .i64 ((ps.getD i pl0).x.rw_), .int .i64 ((ps.getD i pl0).x.cl)], fun v _ => v = .slice aw9 ((qs).length) cw9, fun v _ => v = .int .i64 ((i : Nat) : Int), fun v _ => v = .pointer (some ⟨g_42, i * 10, none⟩), fun v _ => v = .pointer (some ⟨g_42, i * 10, none⟩), fun v _ => v = .agg #[.int .i64 ((qs.getD i pl0).x.at_), .int .i64 ((qs.getD i pl0).x.kd), .slice ((qs.getD i pl0).a) ((qs.getD i pl0).x.bs.length) ((qs.getD i pl0).c), .int .i64 ((qs.getD i pl0).x.k0), .int .u8 ((qs.getD i pl0).x.k1), .bool ((qs.getD i pl0).x.k2), .bool ((qs.getD i pl0).x.k3), .int .i64 ((qs.getD i pl0).x.rw_), .int .i64 ((qs.getD i pl0).x.cl)]]) (fun W => Gr w_28 W) (by kernel_rfl) (by kernel_rfl) (by kernel_rfl) (by kernel_rfl) (by kernel_rfl) (Gr.refl _).drew ?_ ?_
    · refine ⟨?_, ⟨?_, ⟨?_, ⟨?_, ⟨?_, ⟨?_, ⟨?_, ⟨?_, ⟨?_, ⟨?_, ⟨?_, ⟨?_, ⟨?_, ⟨?_, ⟨?_, ⟨?_, ⟨?_, ⟨?_, ⟨?_, ⟨?_, ⟨?_, ⟨?_, ⟨?_, trivial⟩⟩⟩⟩⟩⟩⟩⟩⟩⟩⟩⟩⟩⟩⟩⟩⟩⟩⟩⟩⟩⟩⟩
      · intro L ys W hB hF hP K hK
        show OpE _ _ _ W K
        exact OpE.val (.slice ag ((ps).length) cg) W (by kernel_rfl) (hK _ W hB rfl (fun _ _ h => h))
      · intro L ys W hB hF hP K hK
        show OpE _ _ _ W K
        exact OpE.val (.int .i64 ((i : Nat) : Int)) W (by kernel_rfl) (hK _ W hB rfl (fun _ _ h => h))
      · intro L ys W hB hF hP K hK
        show OpE _ _ _ W K
        exact OpE.known (j := 0) (v := .slice ag ((ps).length) cg) (hF 0 (hP.1 rfl)) (OpE.known (j := 1) (v := .int .i64 ((i : Nat) : Int)) (hF 1 (hP.2.1 rfl)) (OpE.val (.pointer (some ⟨g_40, i * 10, none⟩)) W (run_ixR (len := (ps).length) (cap := cg) (q := .i64) (I := ((i : Nat) : Int)) (i := i) (size := 10) ha_41 rfl (by kernel_rfl) (by kernel_rfl) rfl (by kernel_rfl) (by kernel_rfl) (by omega)) (hK _ W hB rfl (fun _ _ h => h))))
      · intro L ys W hB hF hP K hK
        show OpE _ _ _ W K
        exact OpE.known (j := 2) (v := .pointer (some ⟨g_40, i * 10, none⟩)) (hF 2 (hP.1 rfl)) (OpE.val (.pointer (some ⟨g_40, i * 10 + 9, none⟩)) W (by kernel_rfl) (hK _ W hB rfl (fun _ _ h => h)))
      · intro L ys W hB hF hP K hK
        show OpE _ _ _ W K
        exact OpE.known (j := 3) (v := .pointer (some ⟨g_40, i * 10 + 9, none⟩)) (hF 3 (hP.1 rfl)) (OpE.load (g := g_40) (off := i * 10 + 9) (v := .int .i64 (((ps.getD i pl0).n : Nat) : Int)) rfl (by kernel_rfl) ((hs_29.grow hB).row_blk (i := 0) ha_41 rfl) (ldV_one (by kernel_rfl) (by kernel_rfl) ((hs_29.grow hB).row_one (i := 0) ha_41 rfl (pcells_get (l := ps) (i := i) (j := 9) (by omega) rfl))) (hK _ W hB rfl (fun _ _ h => h)))
      · intro L ys W hB hF hP K hK
        show OpE _ _ _ W K
        exact OpE.val (.slice aw9 ((qs).length) cw9) W (by kernel_rfl) (hK _ W hB rfl (fun _ _ h => h))
      · intro L ys W hB hF hP K hK
        show OpE _ _ _ W K
        exact OpE.val (.int .i64 ((i : Nat) : Int)) W (by kernel_rfl) (hK _ W hB rfl (fun _ _ h => h))
      · intro L ys W hB hF hP K hK
        show OpE _ _ _ W K
        exact OpE.known (j := 5) (v := .slice aw9 ((qs).length) cw9) (hF 5 (hP.1 rfl)) (OpE.known (j := 6) (v := .int .i64 ((i : Nat) : Int)) (hF 6 (hP.2.1 rfl)) (OpE.val (.pointer (some ⟨g_42, i * 10, none⟩)) W (run_ixR (len := (qs).length) (cap := cw9) (q := .i64) (I := ((i : Nat) : Int)) (i := i) (size := 10) ha_43 rfl (by kernel_rfl) (by kernel_rfl) rfl (by kernel_rfl) (by kernel_rfl) (by omega)) (hK _ W hB rfl (fun _ _ h => h))))
      · intro L ys W hB hF hP K hK
        show OpE _ _ _ W K
        exact OpE.known (j := 7) (v := .pointer (some ⟨g_42, i * 10, none⟩)) (hF 7 (hP.1 rfl)) (OpE.val (.pointer (some ⟨g_42, i * 10 + 9, none⟩)) W (by kernel_rfl) (hK _ W hB rfl (fun _ _ h => h)))
      · intro L ys W hB hF hP K hK
        show OpE _ _ _ W K
        exact OpE.known (j := 8) (v := .pointer (some ⟨g_42, i * 10 + 9, none⟩)) (hF 8 (hP.1 rfl)) (OpE.load (g := g_42) (off := i * 10 + 9) (v := .int .i64 (((qs.getD i pl0).n : Nat) : Int)) rfl (by kernel_rfl) ((hs_29.grow hB).row_blk (i := 2) ha_43 rfl) (ldV_one (by kernel_rfl) (by kernel_rfl) ((hs_29.grow hB).row_one (i := 2) ha_43 rfl (pcells_get (l := qs) (i := i) (j := 9) (by omega) rfl))) (hK _ W hB rfl (fun _ _ h => h)))
      · intro L ys W hB hF hP K hK
        show OpE _ _ _ W K
        exact OpE.known (j := 4) (v := .int .i64 (((ps.getD i pl0).n : Nat) : Int)) (hF 4 (hP.1 rfl)) (OpE.known (j := 9) (v := .int .i64 (((qs.getD i pl0).n : Nat) : Int)) (hF 9 (hP.2.1 rfl)) (OpE.val (.bool false) W (run_eqv (by kernel_rfl) (congrArg Value.bool (show (!((((ps.getD i pl0).n : Nat) : Int) == (((qs.getD i pl0).n : Nat) : Int))) = (false) from (by rw [(hall9 i).1]; simp)))) (hK _ W hB rfl (fun _ _ h => h))))
      · intro L ys W hB hF hP K hK
        show OpE _ _ _ W K
        exact OpE.known (j := 10) (v := .bool false) (hF 10 (hP.1 rfl)) (OpE.val (.bool false) W (by kernel_rfl) (hK _ W hB rfl (fun _ _ h => h)))
      · intro L ys W hB hF hP K hK
        refine ⟨50, false, rfl, (show fillE _ 0 ys _ 50 = _ from (hF 11 (hP.1 rfl))), .inl ⟨rfl, ?_⟩⟩
        exact OpE.val (.slice ag ((ps).length) cg) W (by kernel_rfl) (hK _ W hB rfl (fun _ _ h => h))
      · intro L ys W hB hF hP K hK
        refine ⟨50, false, rfl, (show fillE _ 0 ys _ 50 = _ from (hF 11 (hP.1 rfl))), .inl ⟨rfl, ?_⟩⟩
        exact OpE.val (.int .i64 ((i : Nat) : Int)) W (by kernel_rfl) (hK _ W hB rfl (fun _ _ h => h))
      · intro L ys W hB hF hP K hK
        refine ⟨50, false, rfl, (show fillE _ 0 ys _ 50 = _ from (hF 11 (hP.2.2.1 rfl))), .inl ⟨rfl, ?_⟩⟩
        exact OpE.known (j := 12) (v := .slice ag ((ps).length) cg) (hF 12 (hP.1 rfl)) (OpE.known (j := 13) (v := .int .i64 ((i : Nat) : Int)) (hF 13 (hP.2.1 rfl)) (OpE.val (.pointer (some ⟨g_40, i * 10, none⟩)) W (run_ixR (len := (ps).length) (cap := cg) (q := .i64) (I := ((i : Nat) : Int)) (i := i) (size := 10) ha_41 rfl (by kernel_rfl) (by kernel_rfl) rfl (by kernel_rfl) (by kernel_rfl) (by omega)) (hK _ W hB rfl (fun _ _ h => h))))
      · intro L ys W hB hF hP K hK
        refine ⟨50, false, rfl, (show fillE _ 0 ys _ 50 = _ from (hF 11 (hP.2.1 rfl))), .inl ⟨rfl, ?_⟩⟩
        exact OpE.known (j := 14) (v := .pointer (some ⟨g_40, i * 10, none⟩)) (hF 14 (hP.1 rfl)) (OpE.val (.pointer (some ⟨g_40, i * 10, none⟩)) W (by kernel_rfl) (hK _ W hB rfl (fun _ _ h => h)))
      · intro L ys W hB hF hP K hK
        refine ⟨50, false, rfl, (show fillE _ 0 ys _ 50 = _ from (hF 11 (hP.2.1 rfl))), .inl ⟨rfl, ?_⟩⟩
        exact OpE.known (j := 15) (v := .pointer (some ⟨g_40, i * 10, none⟩)) (hF 15 (hP.1 rfl)) (OpE.load (g := g_40) (off := i * 10) (v := .agg #[.int .i64 ((ps.getD i pl0).x.at_), .int .i64 ((ps.getD i pl0).x.kd), .slice ((ps.getD i pl0).a) ((ps.getD i pl0).x.bs.length) ((ps.getD i pl0).c), .int .i64 ((ps.getD i pl0).x.k0), .int .u8 ((ps.getD i pl0).x.k1), .bool ((ps.getD i pl0).x.k2), .bool ((ps.getD i pl0).x.k3), .int .i64 ((ps.getD i pl0).x.rw_), .int .i64 ((ps.getD i pl0).x.cl)]) rfl (by kernel_rfl) ((hs_29.grow hB).row_blk (i := 0) ha_41 rfl) (ldV_row (k := 9) (by kernel_rfl) (by kernel_rfl) ((hs_29.grow hB).row_many (i := 0) ha_41 rfl (pcells_part (l := ps) (i := i) (j := 0) (by omega) rfl rfl) rfl) rfl rfl) (hK _ W hB rfl (fun _ _ h => h)))
      · intro L ys W hB hF hP K hK
        refine ⟨50, false, rfl, (show fillE _ 0 ys _ 50 = _ from (hF 11 (hP.2.2.1 rfl))), .inl ⟨rfl, ?_⟩⟩
        exact OpE.known (j := 16) (v := .agg #[.int .i64 ((ps.getD i pl0).x.at_), .int .i64 ((ps.getD i pl0).x.kd), .slice ((ps.getD i pl0).a) ((ps.getD i pl0).x.bs.length) ((ps.getD i pl0).c), .int .i64 ((ps.getD i pl0).x.k0), .int .u8 ((ps.getD i pl0).x.k1), .bool ((ps.getD i pl0).x.k2), .bool ((ps.getD i pl0).x.k3), .int .i64 ((ps.getD i pl0).x.rw_), .int .i64 ((ps.getD i pl0).x.cl)]) (hF 16 (hP.1 rfl)) (OpE.call 13 #[.agg #[.int .i64 ((ps.getD i pl0).x.at_), .int .i64 ((ps.getD i pl0).x.kd), .slice ((ps.getD i pl0).a) ((ps.getD i pl0).x.bs.length) ((ps.getD i pl0).c), .int .i64 ((ps.getD i pl0).x.k0), .int .u8 ((ps.getD i pl0).x.k1), .bool ((ps.getD i pl0).x.k2), .bool ((ps.getD i pl0).x.k3), .int .i64 ((ps.getD i pl0).x.rw_), .int .i64 ((ps.getD i pl0).x.cl)]] W _ (by kernel_rfl) (told_any ((ps.getD i pl0).x.with ((ps.getD i pl0).a) ((ps.getD i pl0).c)) W) (fun x w' hx => by obtain ⟨rfl, hg⟩ := hx; exact ⟨_, rfl, hK _ w' (hB.trans hg) rfl (fun _ _ h => FW.gr HGR hg h)⟩))
      · intro L ys W hB hF hP K hK
        refine ⟨50, false, rfl, (show fillE _ 0 ys _ 50 = _ from (hF 11 (hP.1 rfl))), .inl ⟨rfl, ?_⟩⟩
        exact OpE.val (.slice aw9 ((qs).length) cw9) W (by kernel_rfl) (hK _ W hB rfl (fun _ _ h => h))
      · intro L ys W hB hF hP K hK
        refine ⟨50, false, rfl, (show fillE _ 0 ys _ 50 = _ from (hF 11 (hP.1 rfl))), .inl ⟨rfl, ?_⟩⟩
        exact OpE.val (.int .i64 ((i : Nat) : Int)) W (by kernel_rfl) (hK _ W hB rfl (fun _ _ h => h))
      · intro L ys W hB hF hP K hK
        refine ⟨50, false, rfl, (show fillE _ 0 ys _ 50 = _ from (hF 11 (hP.2.2.1 rfl))), .inl ⟨rfl, ?_⟩⟩
        exact OpE.known (j := 18) (v := .slice aw9 ((qs).length) cw9) (hF 18 (hP.1 rfl)) (OpE.known (j := 19) (v := .int .i64 ((i : Nat) : Int)) (hF 19 (hP.2.1 rfl)) (OpE.val (.pointer (some ⟨g_42, i * 10, none⟩)) W (run_ixR (len := (qs).length) (cap := cw9) (q := .i64) (I := ((i : Nat) : Int)) (i := i) (size := 10) ha_43 rfl (by kernel_rfl) (by kernel_rfl) rfl (by kernel_rfl) (by kernel_rfl) (by omega)) (hK _ W hB rfl (fun _ _ h => h))))
      · intro L ys W hB hF hP K hK
        refine ⟨50, false, rfl, (show fillE _ 0 ys _ 50 = _ from (hF 11 (hP.2.1 rfl))), .inl ⟨rfl, ?_⟩⟩
        exact OpE.known (j := 20) (v := .pointer (some ⟨g_42, i * 10, none⟩)) (hF 20 (hP.1 rfl)) (OpE.val (.pointer (some ⟨g_42, i * 10, none⟩)) W (by kernel_rfl) (hK _ W hB rfl (fun _ _ h => h)))
      · intro L ys W hB hF hP K hK
        refine ⟨50, false, rfl, (show fillE _ 0 ys _ 50 = _ from (hF 11 (hP.2.1 rfl))), .inl ⟨rfl, ?_⟩⟩
        exact OpE.known (j := 21) (v := .pointer (some ⟨g_42, i * 10, none⟩)) (hF 21 (hP.1 rfl)) (OpE.load (g := g_42) (off := i * 10) (v := .agg #[.int .i64 ((qs.getD i pl0).x.at_), .int .i64 ((qs.getD i pl0).x.kd), .slice ((qs.getD i pl0).a) ((qs.getD i pl0).x.bs.length) ((qs.getD i pl0).c), .int .i64 ((qs.getD i pl0).x.k0), .int .u8 ((qs.getD i pl0).x.k1), .bool ((qs.getD i pl0).x.k2), .bool ((qs.getD i pl0).x.k3), .int .i64 ((qs.getD i pl0).x.rw_), .int .i64 ((qs.getD i pl0).x.cl)]) rfl (by kernel_rfl) ((hs_29.grow hB).row_blk (i := 2) ha_43 rfl) (ldV_row (k := 9) (by kernel_rfl) (by kernel_rfl) ((hs_29.grow hB).row_many (i := 2) ha_43 rfl (pcells_part (l := qs) (i := i) (j := 0) (by omega) rfl rfl) rfl) rfl rfl) (hK _ W hB rfl (fun _ _ h => h)))
    · intro ys_47 w_44 hs_45 hF_46
      have hg_48 := hs_45
      have hs_45 : SH [] w_9 w_44 [rowH 39 10 ag (ps).length cg (pcells ps), allH ((ps).map clH), rowH 46 10 aw9 (qs).length cw9 (pcells qs)] := hs_29.grow hg_48
      refine SL.knownY (j := 11) (v := .bool false) (show ys_47 11 = .bool false from hF_46 11 (by decide)) (SL.knownY (j := 12) (v := .slice ag ((ps).length) cg) (show ys_47 12 = .slice ag ((ps).length) cg from hF_46 12 (by decide)) (SL.knownY (j := 13) (v := .int .i64 ((i : Nat) : Int)) (show ys_47 13 = .int .i64 ((i : Nat) : Int) from hF_46 13 (by decide)) (SL.knownY (j := 14) (v := .pointer (some ⟨g_40, i * 10, none⟩)) (show ys_47 14 = .pointer (some ⟨g_40, i * 10, none⟩) from hF_46 14 (by decide)) (SL.knownY (j := 15) (v := .pointer (some ⟨g_40, i * 10, none⟩)) (show ys_47 15 = .pointer (some ⟨g_40, i * 10, none⟩) from hF_46 15 (by decide)) (SL.knownY (j := 16) (v := .agg #[.int .i64 ((ps.getD i pl0).x.at_), .int .i64 ((ps.getD i pl0).x.kd), .slice ((ps.getD i pl0).a) ((ps.getD i pl0).x.bs.length) ((ps.getD i pl0).c), .int .i64 ((ps.getD i pl0).x.k0), .int .u8 ((ps.getD i pl0).x.k1), .bool ((ps.getD i pl0).x.k2), .bool ((ps.getD i pl0).x.k3), .int .i64 ((ps.getD i pl0).x.rw_), .int .i64 ((ps.getD i pl0).x.cl)]) (show ys_47 16 = .agg #[.int .i64 ((ps.getD i pl0).x.at_), .int .i64 ((ps.getD i pl0).x.kd), .slice ((ps.getD i pl0).a) ((ps.getD i pl0).x.bs.length) ((ps.getD i pl0).c), .int .i64 ((ps.getD i pl0).x.k0), .int .u8 ((ps.getD i pl0).x.k1), .bool ((ps.getD i pl0).x.k2), .bool ((ps.getD i pl0).x.k3), .int .i64 ((ps.getD i pl0).x.rw_), .int .i64 ((ps.getD i pl0).x.cl)] from hF_46 16 (by decide)) (SL.knownY (j := 17) (v := .agg #[.int .i64 ((ps.getD i pl0).x.at_), .int .i64 ((ps.getD i pl0).x.kd), .slice ((ps.getD i pl0).a) ((ps.getD i pl0).x.bs.length) ((ps.getD i pl0).c), .int .i64 ((ps.getD i pl0).x.k0), .int .u8 ((ps.getD i pl0).x.k1), .bool ((ps.getD i pl0).x.k2), .bool ((ps.getD i pl0).x.k3), .int .i64 ((ps.getD i pl0).x.rw_), .int .i64 ((ps.getD i pl0).x.cl)]) (show ys_47 17 = .agg #[.int .i64 ((ps.getD i pl0).x.at_), .int .i64 ((ps.getD i pl0).x.kd), .slice ((ps.getD i pl0).a) ((ps.getD i pl0).x.bs.length) ((ps.getD i pl0).c), .int .i64 ((ps.getD i pl0).x.k0), .int .u8 ((ps.getD i pl0).x.k1), .bool ((ps.getD i pl0).x.k2), .bool ((ps.getD i pl0).x.k3), .int .i64 ((ps.getD i pl0).x.rw_), .int .i64 ((ps.getD i pl0).x.cl)] from hF_46 17 (by decide)) (SL.knownY (j := 18) (v := .slice aw9 ((qs).length) cw9) (show ys_47 18 = .slice aw9 ((qs).length) cw9 from hF_46 18 (by decide)) (SL.knownY (j := 19) (v := .int .i64 ((i : Nat) : Int)) (show ys_47 19 = .int .i64 ((i : Nat) : Int) from hF_46 19 (by decide)) (SL.knownY (j := 20) (v := .pointer (some ⟨g_42, i * 10, none⟩)) (show ys_47 20 = .pointer (some ⟨g_42, i * 10, none⟩) from hF_46 20 (by decide)) (SL.knownY (j := 21) (v := .pointer (some ⟨g_42, i * 10, none⟩)) (show ys_47 21 = .pointer (some ⟨g_42, i * 10, none⟩) from hF_46 21 (by decide)) (SL.knownY (j := 22) (v := .agg #[.int .i64 ((qs.getD i pl0).x.at_), .int .i64 ((qs.getD i pl0).x.kd), .slice ((qs.getD i pl0).a) ((qs.getD i pl0).x.bs.length) ((qs.getD i pl0).c), .int .i64 ((qs.getD i pl0).x.k0), .int .u8 ((qs.getD i pl0).x.k1), .bool ((qs.getD i pl0).x.k2), .bool ((qs.getD i pl0).x.k3), .int .i64 ((qs.getD i pl0).x.rw_), .int .i64 ((qs.getD i pl0).x.cl)]) (show ys_47 22 = .agg #[.int .i64 ((qs.getD i pl0).x.at_), .int .i64 ((qs.getD i pl0).x.kd), .slice ((qs.getD i pl0).a) ((qs.getD i pl0).x.bs.length) ((qs.getD i pl0).c), .int .i64 ((qs.getD i pl0).x.k0), .int .u8 ((qs.getD i pl0).x.k1), .bool ((qs.getD i pl0).x.k2), .bool ((qs.getD i pl0).x.k3), .int .i64 ((qs.getD i pl0).x.rw_), .int .i64 ((qs.getD i pl0).x.cl)] from hF_46 22 (by decide)) (?_))))))))))))
      clear hF_46 HGR
      refine SL.go ?_
      refine SL.call (f := 12) (args := #[.agg #[.int .i64 ((ps.getD i pl0).x.at_), .int .i64 ((ps.getD i pl0).x.kd), .slice ((ps.getD i pl0).a) ((ps.getD i pl0).x.bs.length) ((ps.getD i pl0).c), .int .i64 ((ps.getD i pl0).x.k0), .int .u8 ((ps.getD i pl0).x.k1), .bool ((ps.getD i pl0).x.k2), .bool ((ps.getD i pl0).x.k3), .int .i64 ((ps.getD i pl0).x.rw_), .int .i64 ((ps.getD i pl0).x.cl)], .agg #[.int .i64 ((qs.getD i pl0).x.at_), .int .i64 ((qs.getD i pl0).x.kd), .slice ((qs.getD i pl0).a) ((qs.getD i pl0).x.bs.length) ((qs.getD i pl0).c), .int .i64 ((qs.getD i pl0).x.k0), .int .u8 ((qs.getD i pl0).x.k1), .bool ((qs.getD i pl0).x.k2), .bool ((qs.getD i pl0).x.k3), .int .i64 ((qs.getD i pl0).x.rw_), .int .i64 ((qs.getD i pl0).x.cl)]]) (w1 := w_44) rfl rfl (by kernel_rfl) (same2 (ps.getD i pl0).x (qs.getD i pl0).x ((ps.getD i pl0).a) ((qs.getD i pl0).a) ((ps.getD i pl0).c) ((qs.getD i pl0).c) w_44 (hall9 i).2 (cl_data hs_45 (i := 1) rfl (by omega)) (want_data hrel2 hpa9 (hLF.gr hs_45.gr) hKW (by omega)).1 (want_data hrel2 hpa9 hLF hKW (by omega)).2) ?_
      rintro x w_49 ⟨rfl, hc_50⟩
      refine ⟨.bool true, rfl, ?_⟩
      have hs_51 := hs_45.grow hc_50
      refine SL.go ?_
      refine SL.v (.bool false) ?_
      refine SL.v (.bool false) ?_
      refine SL.nil ?_
      refine CW.cond_false (by kernel_rfl) ?_
      refine CW.skip ?_
      refine CW.region ?_
      refine SL.val (v := .int .i64 ((i + 1 : Nat) : Int)) (w' := w_49) rfl rfl (by have hw : IntKind.i64.wrap (((i : Nat) : Int) + 1) = ((i + 1 : Nat) : Int) := (IntWalk.i64_in _ (by omega)).trans (by omega); exact run_eqv (by kernel_rfl) (congrArg (fun z => Value.int .i64 z) hw)) ?_
      refine SL.v (.int .i64 ((i + 1 : Nat) : Int)) ?_
      refine SL.nil ?_
      exact ⟨_, ⟨i + 1, rfl, (hs_51.pick [0, 0, 0] rfl), (by omega), (by kernel_rfl), (by kernel_rfl), (by kernel_rfl), (by kernel_rfl), (by kernel_rfl), (by kernel_rfl), (by kernel_rfl)⟩, by omega⟩
  · try rw [hb_39]
    have hqhb_39 := of_decide_eq_false hb_39
    refine CW.cond_false (by kernel_rfl) ?_
    refine CW.exit ?_
    repeat with_reducible first | refine PThen.exit ?_ | refine PBlock.out rfl ?_
    with_reducible refine PBlock.here ?_
    repeat with_reducible refine PBlock.normal ?_
    refine CW.seq ?_
    refine CW.seq ?_
    refine CW.region ?_
    refine SL.v (.slice ag ((ps).length) cg) ?_
    refine SL.val (v := .int .i64 (((ps).length : Nat) : Int)) (w' := w_28) rfl rfl (by kernel_rfl) ?_
    refine SL.v (.int .i64 0) ?_
    refine SL.nil ?_
    refine CW.block ?_
    have hs_52 : SH [] w_9 w_28 [rowH 39 10 ag (ps).length cg (pcells ps), allH (((ps).drop 0).map clH), allH ([] : List HA)] := (hs_29.pick [0, 0] rfl).all0
    refine CW.loopI (fun m_ e9 w9 => ∃ (k : Nat), ∃ (Z : List HA), m_ = (ps).length - k ∧ SH [] w_9 w9 [rowH 39 10 ag (ps).length cg (pcells ps), allH Z, allH (((ps).drop k).map clH)] ∧ (k ≤ (ps).length) ∧ e9 0 = .slice aF ((F).length) cF ∧ e9 2 = .bool false ∧ e9 3 = .slice aO ((O).length) cO ∧ e9 66 = .slice ag ((ps).length) cg ∧ e9 67 = .int .i64 (((ps).length : Nat) : Int) ∧ e9 68 = .int .i64 ((k : Nat) : Int)) ⟨_, 0, [], rfl, (hs_52.pick [0, 1, 0] rfl), (Nat.zero_le _), (by kernel_rfl), (by kernel_rfl), (by kernel_rfl), (by kernel_rfl), (by kernel_rfl), (by kernel_rfl)⟩ ?_
    rintro m_53 e_54 w_55 ⟨k, Z, hm_57, hs_56, hk, hv_58, hv_59, hv_60, hv_61, hv_62, hv_63⟩
    obtain ⟨e_64, rfl⟩ : ∃ e_64, e_54 = put1 (put1 (put1 (put1 (put1 (put1 e_64 0 (.slice aF ((F).length) cF)) 2 (.bool false)) 3 (.slice aO ((O).length) cO)) 66 (.slice ag ((ps).length) cg)) 67 (.int .i64 (((ps).length : Nat) : Int))) 68 (.int .i64 ((k : Nat) : Int)) := ⟨e_54, (put_self hv_63).trans (congrArg (fun z => put1 z 68 (.int .i64 ((k : Nat) : Int))) ((put_self hv_62).trans (congrArg (fun z => put1 z 67 (.int .i64 (((ps).length : Nat) : Int))) ((put_self hv_61).trans (congrArg (fun z => put1 z 66 (.slice ag ((ps).length) cg)) ((put_self hv_60).trans (congrArg (fun z => put1 z 3 (.slice aO ((O).length) cO)) ((put_self hv_59).trans (congrArg (fun z => put1 z 2 (.bool false)) (put_self hv_58))))))))))⟩
    clear hv_58 hv_59 hv_60 hv_61 hv_62 hv_63
    refine CW.seq ?_
    refine CW.region ?_
    refine SL.v (.bool (decide (((k : Nat) : Int) < (((ps).length : Nat) : Int)))) ?_
    refine SL.nil ?_
    refine CW.seq ?_
    rcases Bool.eq_false_or_eq_true (decide (((k : Nat) : Int) < (((ps).length : Nat) : Int))) with hb_65 | hb_65
    · try rw [hb_65]
      have hqhb_65 := of_decide_eq_true hb_65
      refine CW.cond_true (by kernel_rfl) ?_
      refine CW.skip ?_
      refine CW.seq ?_
      refine CW.block ?_
      refine CW.seq ?_
      refine CW.region ?_
      obtain ⟨g_66, ha_67⟩ := hs_56.row_some (i := 0) rfl (show 0 < (ps).length by omega)
      refine SL.val (v := .pointer (some ⟨g_66, k * 10, none⟩)) (w' := w_55) rfl rfl (run_ixR (len := (ps).length) (cap := cg) (q := .i64) (I := ((k : Nat) : Int)) (i := k) (size := 10) ha_67 rfl (by kernel_rfl) (by kernel_rfl) rfl (by kernel_rfl) (by kernel_rfl) (by omega)) ?_
      refine SL.load (g := g_66) (off := k * 10) (v := .agg #[.int .i64 ((ps.getD k pl0).x.at_), .int .i64 ((ps.getD k pl0).x.kd), .slice ((ps.getD k pl0).a) ((ps.getD k pl0).x.bs.length) ((ps.getD k pl0).c), .int .i64 ((ps.getD k pl0).x.k0), .int .u8 ((ps.getD k pl0).x.k1), .bool ((ps.getD k pl0).x.k2), .bool ((ps.getD k pl0).x.k3), .int .i64 ((ps.getD k pl0).x.rw_), .int .i64 ((ps.getD k pl0).x.cl), .int .i64 (((ps.getD k pl0).n : Nat) : Int)]) rfl rfl rfl (by kernel_rfl) (hs_56.row_blk (i := 0) ha_67 rfl) (ldV_row (k := 10) (by kernel_rfl) (by kernel_rfl) (hs_56.row_many (i := 0) ha_67 rfl (pcells_part (l := ps) (i := k) (j := 0) (by omega) rfl rfl) rfl) rfl rfl) ?_
      refine SL.newH (mk := fun g => .pointer (some ⟨g, 0, none⟩)) (C := #[.int .i64 0, .int .i64 0, .slice none 0 0, .int .i64 0, .int .u8 0, .bool false, .bool false, .int .i64 0, .int .i64 0, .int .i64 0]) (T := 39) hs_56 rfl rfl (by kernel_rfl) (fun g_68 w_69 hs_70 => ?_)
      have hs_70 : SH [] w_9 w_69 [rowH 39 10 ag (ps).length cg (pcells ps), allH Z, allH (((ps).drop k).map clH), pt g_68 #[.int .i64 0, .int .i64 0, .slice none 0 0, .int .i64 0, .int .u8 0, .bool false, .bool false, .int .i64 0, .int .i64 0, .int .i64 0] 39] := hs_70
      refine SL.storeH (i := 3) (g := g_68) (off := 0) (v := .agg #[.int .i64 ((ps.getD k pl0).x.at_), .int .i64 ((ps.getD k pl0).x.kd), .slice ((ps.getD k pl0).a) ((ps.getD k pl0).x.bs.length) ((ps.getD k pl0).c), .int .i64 ((ps.getD k pl0).x.k0), .int .u8 ((ps.getD k pl0).x.k1), .bool ((ps.getD k pl0).x.k2), .bool ((ps.getD k pl0).x.k3), .int .i64 ((ps.getD k pl0).x.rw_), .int .i64 ((ps.getD k pl0).x.cl), .int .i64 (((ps.getD k pl0).n : Nat) : Int)]) (L' := [rowH 39 10 ag (ps).length cg (pcells ps), allH Z, allH (((ps).drop k).map clH), pt g_68 #[.int .i64 ((ps.getD k pl0).x.at_), .int .i64 ((ps.getD k pl0).x.kd), .slice ((ps.getD k pl0).a) ((ps.getD k pl0).x.bs.length) ((ps.getD k pl0).c), .int .i64 ((ps.getD k pl0).x.k0), .int .u8 ((ps.getD k pl0).x.k1), .bool ((ps.getD k pl0).x.k2), .bool ((ps.getD k pl0).x.k3), .int .i64 ((ps.getD k pl0).x.rw_), .int .i64 ((ps.getD k pl0).x.cl), .int .i64 (((ps.getD k pl0).n : Nat) : Int)] 39]) hs_70 rfl rfl rfl (by kernel_rfl) (by kernel_rfl) rfl (by kernel_rfl) (by kernel_rfl) rfl (by kernel_rfl) rfl (fun w_71 hs_72 => ?_)
      refine SL.nil ?_
      refine CW.seq ?_
      have hdr9 : (ps.drop k).map clH = clH (ps.getD k pl0) :: (ps.drop (k + 1)).map clH := by rw [drop_at (by omega)]; rfl
      have hs_73 := hs_72
      rw [hdr9] at hs_73
      obtain ⟨Q_, hQ_, hs_74⟩ := hs_73.ent (is := [2]) rfl (allH_cons _ _)
      subst hQ_
      have hs_75 : SH [] w_9 w_71 [rowH 5 1 (ps.getD k pl0).a (ps.getD k pl0).x.bs.length (ps.getD k pl0).c (ucells (ps.getD k pl0).x.bs), allH (((ps).drop (k + 1)).map clH), rowH 39 10 ag (ps).length cg (pcells ps), allH Z, pt g_68 #[.int .i64 ((ps.getD k pl0).x.at_), .int .i64 ((ps.getD k pl0).x.kd), .slice ((ps.getD k pl0).a) ((ps.getD k pl0).x.bs.length) ((ps.getD k pl0).c), .int .i64 ((ps.getD k pl0).x.k0), .int .u8 ((ps.getD k pl0).x.k1), .bool ((ps.getD k pl0).x.k2), .bool ((ps.getD k pl0).x.k3), .int .i64 ((ps.getD k pl0).x.rw_), .int .i64 ((ps.getD k pl0).x.cl), .int .i64 (((ps.getD k pl0).n : Nat) : Int)] 39] := by have h_ := hs_74; unfold clH at h_; rw [ucells_eq] at h_; exact h_
      refine CW.region ?_
      refine SL.v (.pointer (some ⟨g_68, 0, none⟩)) ?_
      refine SL.v (.pointer (some ⟨g_68, 2, none⟩)) ?_
      refine SL.load (g := g_68) (off := 2) (v := .slice ((ps.getD k pl0).a) ((ps.getD k pl0).x.bs.length) ((ps.getD k pl0).c)) rfl rfl rfl (by kernel_rfl) (hs_75.pt_at (i := 4) rfl) (by kernel_rfl) ?_
      refine SL.val (v := .int .i64 (((ps.getD k pl0).x.bs.length : Nat) : Int)) (w' := w_71) rfl rfl (by kernel_rfl) ?_
      refine SL.v (.int .i64 0) ?_
      refine SL.nil ?_
      refine CW.block ?_
      refine CW.loopI (fun m_ e9 w9 => ∃ (j : Nat), ∃ (bs : List Int), m_ = (ps.getD k pl0).x.bs.length - j ∧ SH [] w_9 w9 [rowH 5 1 (ps.getD k pl0).a (ps.getD k pl0).x.bs.length (ps.getD k pl0).c (ucells bs), allH (((ps).drop (k + 1)).map clH), rowH 39 10 ag (ps).length cg (pcells ps), allH Z, pt g_68 #[.int .i64 ((ps.getD k pl0).x.at_), .int .i64 ((ps.getD k pl0).x.kd), .slice ((ps.getD k pl0).a) ((ps.getD k pl0).x.bs.length) ((ps.getD k pl0).c), .int .i64 ((ps.getD k pl0).x.k0), .int .u8 ((ps.getD k pl0).x.k1), .bool ((ps.getD k pl0).x.k2), .bool ((ps.getD k pl0).x.k3), .int .i64 ((ps.getD k pl0).x.rw_), .int .i64 ((ps.getD k pl0).x.cl), .int .i64 (((ps.getD k pl0).n : Nat) : Int)] 39] ∧ (j ≤ (ps.getD k pl0).x.bs.length) ∧ (bs.length = (ps.getD k pl0).x.bs.length) ∧ e9 0 = .slice aF ((F).length) cF ∧ e9 2 = .bool false ∧ e9 3 = .slice aO ((O).length) cO ∧ e9 8 = .pointer (some ⟨g_68, 0, none⟩) ∧ e9 66 = .slice ag ((ps).length) cg ∧ e9 67 = .int .i64 (((ps).length : Nat) : Int) ∧ e9 68 = .int .i64 ((k : Nat) : Int) ∧ e9 69 = .bool true ∧ e9 75 = .int .i64 (((ps.getD k pl0).x.bs.length : Nat) : Int) ∧ e9 76 = .int .i64 ((j : Nat) : Int)) ⟨_, 0, _, rfl, hs_75, (Nat.zero_le _), rfl, (by kernel_rfl), (by kernel_rfl), (by kernel_rfl), (by kernel_rfl), (by kernel_rfl), (by kernel_rfl), (by kernel_rfl), (by kernel_rfl), (by kernel_rfl), (by kernel_rfl)⟩ ?_
      rintro m_76 e_77 w_78 ⟨j, bs, hm_80, hs_79, hj, hbs, hv_81, hv_82, hv_83, hv_84, hv_85, hv_86, hv_87, hv_88, hv_89, hv_90⟩
      obtain ⟨e_91, rfl⟩ : ∃ e_91, e_77 = put1 (put1 (put1 (put1 (put1 (put1 (put1 (put1 (put1 (put1 e_91 0 (.slice aF ((F).length) cF)) 2 (.bool false)) 3 (.slice aO ((O).length) cO)) 8 (.pointer (some ⟨g_68, 0, none⟩))) 66 (.slice ag ((ps).length) cg)) 67 (.int .i64 (((ps).length : Nat) : Int))) 68 (.int .i64 ((k : Nat) : Int))) 69 (.bool true)) 75 (.int .i64 (((ps.getD k pl0).x.bs.length : Nat) : Int))) 76 (.int .i64 ((j : Nat) : Int)) := ⟨e_77, (put_self hv_90).trans (congrArg (fun z => put1 z 76 (.int .i64 ((j : Nat) : Int))) ((put_self hv_89).trans (congrArg (fun z => put1 z 75 (.int .i64 (((ps.getD k pl0).x.bs.length : Nat) : Int))) ((put_self hv_88).trans (congrArg (fun z => put1 z 69 (.bool true)) ((put_self hv_87).trans (congrArg (fun z => put1 z 68 (.int .i64 ((k : Nat) : Int))) ((put_self hv_86).trans (congrArg (fun z => put1 z 67 (.int .i64 (((ps).length : Nat) : Int))) ((put_self hv_85).trans (congrArg (fun z => put1 z 66 (.slice ag ((ps).length) cg)) ((put_self hv_84).trans (congrArg (fun z => put1 z 8 (.pointer (some ⟨g_68, 0, none⟩))) ((put_self hv_83).trans (congrArg (fun z => put1 z 3 (.slice aO ((O).length) cO)) ((put_self hv_82).trans (congrArg (fun z => put1 z 2 (.bool false)) (put_self hv_81))))))))))))))))))⟩
      clear hv_81 hv_82 hv_83 hv_84 hv_85 hv_86 hv_87 hv_88 hv_89 hv_90
      refine CW.seq ?_
      refine CW.region ?_
      refine SL.v (.bool (decide (((j : Nat) : Int) < (((ps.getD k pl0).x.bs.length : Nat) : Int)))) ?_
      refine SL.nil ?_
      refine CW.seq ?_
      rcases Bool.eq_false_or_eq_true (decide (((j : Nat) : Int) < (((ps.getD k pl0).x.bs.length : Nat) : Int))) with hb_92 | hb_92
      · try rw [hb_92]
        have hqhb_92 := of_decide_eq_true hb_92
        refine CW.cond_true (by kernel_rfl) ?_
        refine CW.skip ?_
        refine CW.seq ?_
        refine CW.block ?_
        refine CW.seq ?_
        refine CW.region ?_
        refine SL.v (.int .i64 ((j : Nat) : Int)) ?_
        refine SL.v (.int .i64 ((j : Nat) : Int)) ?_
        refine SL.nil ?_
        obtain ⟨g_93, pad_94, ha_95, hs_96, hl_97, hc_98, hm_99⟩ := hs_79.ofRow (i := 0) rfl (show 0 < (ps.getD k pl0).x.bs.length by omega)
        have hmx9 : maxLen ≤ 9223372036854775807 := by decide
        have hs_100 : SH [] w_9 w_78 [allH (((ps).drop (k + 1)).map clH), rowH 39 10 ag (ps).length cg (pcells ps), allH Z, pt g_68 #[.int .i64 ((ps.getD k pl0).x.at_), .int .i64 ((ps.getD k pl0).x.kd), .slice ((ps.getD k pl0).a) ((ps.getD k pl0).x.bs.length) ((ps.getD k pl0).c), .int .i64 ((ps.getD k pl0).x.k0), .int .u8 ((ps.getD k pl0).x.k1), .bool ((ps.getD k pl0).x.k2), .bool ((ps.getD k pl0).x.k3), .int .i64 ((ps.getD k pl0).x.rw_), .int .i64 ((ps.getD k pl0).x.cl), .int .i64 (((ps.getD k pl0).n : Nat) : Int)] 39, pt g_93 ⟨ucells bs ++ pad_94⟩ 5] := hs_96
        refine CW.region ?_
        refine SL.v (.pointer (some ⟨g_68, 0, none⟩)) ?_
        refine SL.v (.pointer (some ⟨g_68, 2, none⟩)) ?_
        refine SL.load (g := g_68) (off := 2) (v := .slice ((ps.getD k pl0).a) ((ps.getD k pl0).x.bs.length) ((ps.getD k pl0).c)) rfl rfl rfl (by kernel_rfl) (hs_100.pt_at (i := 3) rfl) (by kernel_rfl) ?_
        refine SL.v (.int .i64 ((j : Nat) : Int)) ?_
        refine SL.val (v := .pointer (some ⟨g_93, j * 1, none⟩)) (w' := w_78) rfl rfl ((run_ixS (len := (ps.getD k pl0).x.bs.length) (cap := (ps.getD k pl0).c) (q := .i64) (I := ((j : Nat) : Int)) (i := j) (size := 1) ha_95 rfl (by kernel_rfl) (by kernel_rfl) rfl (by kernel_rfl) (by kernel_rfl) (by omega)).trans (by rw [Nat.zero_add])) ?_
        refine SL.load (g := g_93) (off := j * 1) (v := .int .u8 (bs.getD j 0)) rfl rfl rfl (by kernel_rfl) (hs_100.pt_at (i := 4) rfl) (ldV_one (by kernel_rfl) (by kernel_rfl) (srow_get (ucells_get (l := bs) (i := j) (j := 0) (by omega) rfl))) ?_
        refine SL.v (.int .u8 (bits .xor .u8 (bs.getD j 0) 255)) ?_
        refine SL.val (v := .pointer (some ⟨g_93, j * 1, none⟩)) (w' := w_78) rfl rfl ((run_ixS (len := (ps.getD k pl0).x.bs.length) (cap := (ps.getD k pl0).c) (q := .i64) (I := ((j : Nat) : Int)) (i := j) (size := 1) ha_95 rfl (by kernel_rfl) (by kernel_rfl) rfl (by kernel_rfl) (by kernel_rfl) (by omega)).trans (by rw [Nat.zero_add])) ?_
        refine SL.storeH (i := 4) (g := g_93) (off := j * 1) (v := .int .u8 (bits .xor .u8 (bs.getD j 0) 255)) (C' := ⟨ucells (bs.set j (bits .xor .u8 (bs.getD j 0) 255)) ++ pad_94⟩) (L' := [allH (((ps).drop (k + 1)).map clH), rowH 39 10 ag (ps).length cg (pcells ps), allH Z, pt g_68 #[.int .i64 ((ps.getD k pl0).x.at_), .int .i64 ((ps.getD k pl0).x.kd), .slice ((ps.getD k pl0).a) ((ps.getD k pl0).x.bs.length) ((ps.getD k pl0).c), .int .i64 ((ps.getD k pl0).x.k0), .int .u8 ((ps.getD k pl0).x.k1), .bool ((ps.getD k pl0).x.k2), .bool ((ps.getD k pl0).x.k3), .int .i64 ((ps.getD k pl0).x.rw_), .int .i64 ((ps.getD k pl0).x.cl), .int .i64 (((ps.getD k pl0).n : Nat) : Int)] 39, pt g_93 ⟨ucells (bs.set j (bits .xor .u8 (bs.getD j 0) 255)) ++ pad_94⟩ 5]) hs_100 rfl rfl rfl (by kernel_rfl) (by kernel_rfl) rfl (by kernel_rfl) (by kernel_rfl) (srow_room (f := uC) (k := 1) uC_len (l := bs) (pad := pad_94) (i := j) (j := 0) (m := 1) (by (try simp only [List.length_set]); omega) (by decide)) (show setL ⟨ucells bs ++ pad_94⟩ (j * 1) [.int .u8 (bits .xor .u8 (bs.getD j 0) 255)] = ⟨ucells (bs.set j (bits .xor .u8 (bs.getD j 0) 255)) ++ pad_94⟩ from flC_setP (f := uC) (d := 0) (k := 1) uC_len (l := bs) (pad := pad_94) (i := j) (j := 0) (e := bits .xor .u8 (bs.getD j 0) 255) (vs := [.int .u8 (bits .xor .u8 (bs.getD j 0) 255)]) (by (try simp only [List.length_set]); omega) (show 0 + 1 ≤ 1 by decide) rfl) rfl (fun w_101 hs_102 => ?_)
        refine SL.nil ?_
        refine CW.region ?_
        refine SL.val (v := .int .i64 ((j + 1 : Nat) : Int)) (w' := w_101) rfl rfl (by have hw : IntKind.i64.wrap (((j : Nat) : Int) + 1) = ((j + 1 : Nat) : Int) := (IntWalk.i64_in _ (by omega)).trans (by omega); exact run_eqv (by kernel_rfl) (congrArg (fun z => Value.int .i64 z) hw)) ?_
        refine SL.v (.int .i64 ((j + 1 : Nat) : Int)) ?_
        refine SL.nil ?_
        have hs_103 : SH [] w_9 w_101 [allH (((ps).drop (k + 1)).map clH), rowH 39 10 ag (ps).length cg (pcells ps), allH Z, pt g_68 #[.int .i64 ((ps.getD k pl0).x.at_), .int .i64 ((ps.getD k pl0).x.kd), .slice ((ps.getD k pl0).a) ((ps.getD k pl0).x.bs.length) ((ps.getD k pl0).c), .int .i64 ((ps.getD k pl0).x.k0), .int .u8 ((ps.getD k pl0).x.k1), .bool ((ps.getD k pl0).x.k2), .bool ((ps.getD k pl0).x.k3), .int .i64 ((ps.getD k pl0).x.rw_), .int .i64 ((ps.getD k pl0).x.cl), .int .i64 (((ps.getD k pl0).n : Nat) : Int)] 39, rowH 5 1 (ps.getD k pl0).a (ps.getD k pl0).x.bs.length (ps.getD k pl0).c (ucells (bs.set j (bits .xor .u8 (bs.getD j 0) 255)))] := by have h_ := hs_102.toRow (i := 4) (m := (ps.getD k pl0).x.bs.length) rfl (by rw [ucells_len, List.length_set, hbs]) (by rw [List.length_append, ucells_len, List.length_set]; have h2_ := hl_97; rw [List.length_append, ucells_len] at h2_; exact h2_) hc_98 hm_99; rw [← ha_95] at h_; exact h_
        exact ⟨_, ⟨j + 1, _, rfl, (hs_103.pick [4, 0, 0, 0, 0] rfl), (by omega), (by rw [List.length_set]; exact hbs), (by kernel_rfl), (by kernel_rfl), (by kernel_rfl), (by kernel_rfl), (by kernel_rfl), (by kernel_rfl), (by kernel_rfl), (by kernel_rfl), (by kernel_rfl), (by kernel_rfl)⟩, by omega⟩
      · try rw [hb_92]
        have hqhb_92 := of_decide_eq_false hb_92
        refine CW.cond_false (by kernel_rfl) ?_
        refine CW.exit ?_
        repeat with_reducible first | refine PThen.exit ?_ | refine PBlock.out rfl ?_
        with_reducible refine PBlock.here ?_
        repeat with_reducible refine PBlock.normal ?_
        refine CW.region ?_
        refine SL.val (v := .int .i64 ((k + 1 : Nat) : Int)) (w' := w_78) rfl rfl (by have hw : IntKind.i64.wrap (((k : Nat) : Int) + 1) = ((k + 1 : Nat) : Int) := (IntWalk.i64_in _ (by omega)).trans (by omega); exact run_eqv (by kernel_rfl) (congrArg (fun z => Value.int .i64 z) hw)) ?_
        refine SL.v (.int .i64 ((k + 1 : Nat) : Int)) ?_
        refine SL.nil ?_
        obtain ⟨Q_, hQ_, hs_104⟩ := hs_79.ent (is := [3, 0]) rfl (allH_push Z (rowH 5 1 (ps.getD k pl0).a (ps.getD k pl0).x.bs.length (ps.getD k pl0).c (ucells bs)))
        subst hQ_
        have hs_105 : SH [] w_9 w_78 [allH (Z ++ [rowH 5 1 (ps.getD k pl0).a (ps.getD k pl0).x.bs.length (ps.getD k pl0).c (ucells bs)]), allH (((ps).drop (k + 1)).map clH), rowH 39 10 ag (ps).length cg (pcells ps), pt g_68 #[.int .i64 ((ps.getD k pl0).x.at_), .int .i64 ((ps.getD k pl0).x.kd), .slice ((ps.getD k pl0).a) ((ps.getD k pl0).x.bs.length) ((ps.getD k pl0).c), .int .i64 ((ps.getD k pl0).x.k0), .int .u8 ((ps.getD k pl0).x.k1), .bool ((ps.getD k pl0).x.k2), .bool ((ps.getD k pl0).x.k3), .int .i64 ((ps.getD k pl0).x.rw_), .int .i64 ((ps.getD k pl0).x.cl), .int .i64 (((ps.getD k pl0).n : Nat) : Int)] 39] := hs_104
        exact ⟨_, ⟨k + 1, (Z ++ [rowH 5 1 (ps.getD k pl0).a (ps.getD k pl0).x.bs.length (ps.getD k pl0).c (ucells bs)]), rfl, (hs_105.pick [2, 0, 0] rfl), (by omega), (by kernel_rfl), (by kernel_rfl), (by kernel_rfl), (by kernel_rfl), (by kernel_rfl), (by kernel_rfl)⟩, by omega⟩
    · try rw [hb_65]
      have hqhb_65 := of_decide_eq_false hb_65
      refine CW.cond_false (by kernel_rfl) ?_
      refine CW.exit ?_
      repeat with_reducible first | refine PThen.exit ?_ | refine PBlock.out rfl ?_
      with_reducible refine PBlock.here ?_
      repeat with_reducible refine PBlock.normal ?_
      refine CW.seq ?_
      refine CW.seq ?_
      refine CW.region ?_
      refine SL.v (.slice aO ((O).length) cO) ?_
      refine SL.val (v := .int .i64 (((O).length : Nat) : Int)) (w' := w_55) rfl rfl (by kernel_rfl) ?_
      refine SL.v (.int .i64 0) ?_
      refine SL.nil ?_
      refine CW.block ?_
      refine CW.loopI (fun m_ e9 w9 => ∃ (k : Nat), m_ = O.length - k ∧ SH [] w_9 w9 [] ∧ (k ≤ O.length) ∧ e9 0 = .slice aF ((F).length) cF ∧ e9 2 = .bool false ∧ e9 3 = .slice aO ((O).length) cO ∧ e9 90 = .int .i64 (((O).length : Nat) : Int) ∧ e9 91 = .int .i64 ((k : Nat) : Int)) ⟨_, 0, rfl, (hs_56.pick [] rfl), (Nat.zero_le _), (by kernel_rfl), (by kernel_rfl), (by kernel_rfl), (by kernel_rfl), (by kernel_rfl)⟩ ?_
      rintro m_106 e_107 w_108 ⟨k, hm_110, hs_109, hk, hv_111, hv_112, hv_113, hv_114, hv_115⟩
      obtain ⟨e_116, rfl⟩ : ∃ e_116, e_107 = put1 (put1 (put1 (put1 (put1 e_116 0 (.slice aF ((F).length) cF)) 2 (.bool false)) 3 (.slice aO ((O).length) cO)) 90 (.int .i64 (((O).length : Nat) : Int))) 91 (.int .i64 ((k : Nat) : Int)) := ⟨e_107, (put_self hv_115).trans (congrArg (fun z => put1 z 91 (.int .i64 ((k : Nat) : Int))) ((put_self hv_114).trans (congrArg (fun z => put1 z 90 (.int .i64 (((O).length : Nat) : Int))) ((put_self hv_113).trans (congrArg (fun z => put1 z 3 (.slice aO ((O).length) cO)) ((put_self hv_112).trans (congrArg (fun z => put1 z 2 (.bool false)) (put_self hv_111))))))))⟩
      clear hv_111 hv_112 hv_113 hv_114 hv_115
      have hkl9 : (O.getD k le0).xs.length = (F.getD k le0).xs.length := by have h_ := congrArg List.length (bareL_get hspO k); rw [List.length_map, List.length_map] at h_; exact h_
      have hkl8 : k < F.length → (F.getD k le0).xs.length ≤ 12 := fun h => (hF12 _ (getD_mem h)).1
      refine CW.seq ?_
      refine CW.region ?_
      refine SL.v (.bool (decide (((k : Nat) : Int) < (((O).length : Nat) : Int)))) ?_
      refine SL.nil ?_
      refine CW.seq ?_
      rcases Bool.eq_false_or_eq_true (decide (((k : Nat) : Int) < (((O).length : Nat) : Int))) with hb_117 | hb_117
      · try rw [hb_117]
        have hqhb_117 := of_decide_eq_true hb_117
        refine CW.cond_true (by kernel_rfl) ?_
        refine CW.skip ?_
        refine CW.seq ?_
        refine CW.block ?_
        refine CW.seq ?_
        refine CW.region ?_
        refine SL.v (.int .i64 ((k : Nat) : Int)) ?_
        refine SL.v (.int .i64 ((k : Nat) : Int)) ?_
        refine SL.nil ?_
        refine CW.seq ?_
        refine CW.region ?_
        refine SL.v (.slice aO ((O).length) cO) ?_
        refine SL.v (.int .i64 ((k : Nat) : Int)) ?_
        obtain ⟨sb_118, so_119, sC_120, sT_121, sf_122, hsa_123, hsb_124, hsr_125⟩ := hOutO (by omega)
        refine SL.val (v := .pointer (some ⟨sb_118, so_119 + k, none⟩)) (w' := w_108) rfl rfl ((run_ixS (len := (O).length) (cap := cO) (q := .i64) (I := ((k : Nat) : Int)) (i := k) (size := 1) hsa_123 rfl (by kernel_rfl) (by kernel_rfl) rfl (by kernel_rfl) (by kernel_rfl) (by omega)).trans (by rw [Nat.mul_one])) ?_
        refine SL.load (g := sb_118) (off := so_119 + k) (v := .slice ((O.getD k le0).a) ((O.getD k le0).xs.length) ((O.getD k le0).c)) rfl rfl rfl (by kernel_rfl) (hs_109.gr.blk hsb_124) (ldV_one (by kernel_rfl) (by kernel_rfl) (hsr_125 k (by omega))) ?_
        refine SL.val (v := .int .i64 (((O.getD k le0).xs.length : Nat) : Int)) (w' := w_108) rfl rfl (by kernel_rfl) ?_
        refine SL.v (.int .i64 0) ?_
        refine SL.nil ?_
        refine CW.block ?_
        refine CW.loopI (fun m_ e9 w9 => ∃ (j : Nat), m_ = (O.getD k le0).xs.length - j ∧ SH [] w_9 w9 [] ∧ (j ≤ (O.getD k le0).xs.length) ∧ e9 0 = .slice aF ((F).length) cF ∧ e9 2 = .bool false ∧ e9 3 = .slice aO ((O).length) cO ∧ e9 10 = .int .i64 ((k : Nat) : Int) ∧ e9 90 = .int .i64 (((O).length : Nat) : Int) ∧ e9 91 = .int .i64 ((k : Nat) : Int) ∧ e9 92 = .bool true ∧ e9 98 = .int .i64 (((O.getD k le0).xs.length : Nat) : Int) ∧ e9 99 = .int .i64 ((j : Nat) : Int)) ⟨_, 0, rfl, hs_109, (Nat.zero_le _), (by kernel_rfl), (by kernel_rfl), (by kernel_rfl), (by kernel_rfl), (by kernel_rfl), (by kernel_rfl), (by kernel_rfl), (by kernel_rfl), (by kernel_rfl)⟩ ?_
        rintro m_126 e_127 w_128 ⟨j, hm_130, hs_129, hj, hv_131, hv_132, hv_133, hv_134, hv_135, hv_136, hv_137, hv_138, hv_139⟩
        obtain ⟨e_140, rfl⟩ : ∃ e_140, e_127 = put1 (put1 (put1 (put1 (put1 (put1 (put1 (put1 (put1 e_140 0 (.slice aF ((F).length) cF)) 2 (.bool false)) 3 (.slice aO ((O).length) cO)) 10 (.int .i64 ((k : Nat) : Int))) 90 (.int .i64 (((O).length : Nat) : Int))) 91 (.int .i64 ((k : Nat) : Int))) 92 (.bool true)) 98 (.int .i64 (((O.getD k le0).xs.length : Nat) : Int))) 99 (.int .i64 ((j : Nat) : Int)) := ⟨e_127, (put_self hv_139).trans (congrArg (fun z => put1 z 99 (.int .i64 ((j : Nat) : Int))) ((put_self hv_138).trans (congrArg (fun z => put1 z 98 (.int .i64 (((O.getD k le0).xs.length : Nat) : Int))) ((put_self hv_137).trans (congrArg (fun z => put1 z 92 (.bool true)) ((put_self hv_136).trans (congrArg (fun z => put1 z 91 (.int .i64 ((k : Nat) : Int))) ((put_self hv_135).trans (congrArg (fun z => put1 z 90 (.int .i64 (((O).length : Nat) : Int))) ((put_self hv_134).trans (congrArg (fun z => put1 z 10 (.int .i64 ((k : Nat) : Int))) ((put_self hv_133).trans (congrArg (fun z => put1 z 3 (.slice aO ((O).length) cO)) ((put_self hv_132).trans (congrArg (fun z => put1 z 2 (.bool false)) (put_self hv_131))))))))))))))))⟩
        clear hv_131 hv_132 hv_133 hv_134 hv_135 hv_136 hv_137 hv_138 hv_139
        refine CW.seq ?_
        refine CW.region ?_
        refine SL.v (.bool (decide (((j : Nat) : Int) < (((O.getD k le0).xs.length : Nat) : Int)))) ?_
        refine SL.nil ?_
        refine CW.seq ?_
        rcases Bool.eq_false_or_eq_true (decide (((j : Nat) : Int) < (((O.getD k le0).xs.length : Nat) : Int))) with hb_141 | hb_141
        · try rw [hb_141]
          have hqhb_141 := of_decide_eq_true hb_141
          refine CW.cond_true (by kernel_rfl) ?_
          refine CW.skip ?_
          refine CW.seq ?_
          refine CW.block ?_
          refine CW.seq ?_
          refine CW.region ?_
          refine SL.v (.int .i64 ((j : Nat) : Int)) ?_
          refine SL.v (.int .i64 ((j : Nat) : Int)) ?_
          refine SL.nil ?_
          refine CW.seq ?_
          obtain ⟨sb_142, so_143, sC_144, sT_145, sf_146, hsa_147, hsb_148, hsr_149⟩ := hOutO (by omega)
          obtain ⟨ib_150, io_151, hia_152, hir_153⟩ := (hLFO _ (getD_mem (Ls := O) (k := k) (by omega))).1 (by omega)
          obtain ⟨sb_154, so_155, sC_156, sT_157, sf_158, hsa_159, hsb_160, hsr_161⟩ := hOut (by omega)
          obtain ⟨ib_162, io_163, hia_164, hir_165⟩ := (hLF.1 _ (getD_mem (Ls := F) (k := k) (by omega))).1 (by omega)
          have HGR : GrL [fun v _ => v = .slice aO ((O).length) cO, fun v _ => v = .int .i64 ((k : Nat) : Int), fun v _ => v = .pointer (some ⟨sb_142, so_143 + k, none⟩), fun v _ => v = .slice ((O.getD k le0).a) ((O.getD k le0).xs.length) ((O.getD k le0).c), fun v _ => v = .int .i64 ((j : Nat) : Int), fun v _ => v = .pointer (some ⟨ib_150, io_151 + j * 9, none⟩), fun v _ => v = .agg #[.int .i64 (((O.getD k le0).xs.getD j itm0).at_), .int .i64 (((O.getD k le0).xs.getD j itm0).kd), .slice (((O.getD k le0).xs.getD j itm0).da) (((O.getD k le0).xs.getD j itm0).bs.length) (((O.getD k le0).xs.getD j itm0).dc), .int .i64 (((O.getD k le0).xs.getD j itm0).k0), .int .u8 (((O.getD k le0).xs.getD j itm0).k1), .bool (((O.getD k le0).xs.getD j itm0).k2), .bool (((O.getD k le0).xs.getD j itm0).k3), .int .i64 (((O.getD k le0).xs.getD j itm0).rw_), .int .i64 (((O.getD k le0).xs.getD j itm0).cl)], fun v _ => v = .agg #[.int .i64 (((O.getD k le0).xs.getD j itm0).at_), .int .i64 (((O.getD k le0).xs.getD j itm0).kd), .slice (((O.getD k le0).xs.getD j itm0).da) (((O.getD k le0).xs.getD j itm0).bs.length) (((O.getD k le0).xs.getD j itm0).dc), .int .i64 (((O.getD k le0).xs.getD j itm0).k0), .int .u8 (((O.getD k le0).xs.getD j itm0).k1), .bool (((O.getD k le0).xs.getD j itm0).k2), .bool (((O.getD k le0).xs.getD j itm0).k3), .int .i64 (((O.getD k le0).xs.getD j itm0).rw_), .int .i64 (((O.getD k le0).xs.getD j itm0).cl)], fun v _ => v = .slice aF ((F).length) cF, fun v _ => v = .int .i64 ((k : Nat) : Int), fun v _ => v = .pointer (some ⟨sb_154, so_155 + k, none⟩), fun v _ => v = .slice ((F.getD k le0).a) ((F.getD k le0).xs.length) ((F.getD k le0).c), fun v _ => v = .int .i64 ((j : Nat) : Int), fun v _ => v = .pointer (some ⟨ib_162, io_163 + j * 9, none⟩), fun v _ => v = .agg #[.int .i64 (((F.getD k le0).xs.getD j itm0).at_), .int .i64 (((F.getD k le0).xs.getD j itm0).kd), .slice (((F.getD k le0).xs.getD j itm0).da) (((F.getD k le0).xs.getD j itm0).bs.length) (((F.getD k le0).xs.getD j itm0).dc), .int .i64 (((F.getD k le0).xs.getD j itm0).k0), .int .u8 (((F.getD k le0).xs.getD j itm0).k1), .bool (((F.getD k le0).xs.getD j itm0).k2), .bool (((F.getD k le0).xs.getD j itm0).k3), .int .i64 (((F.getD k le0).xs.getD j itm0).rw_), .int .i64 (((F.getD k le0).xs.getD j itm0).cl)]] := ⟨fun _ _ _ _ h => h, ⟨fun _ _ _ _ h => h, ⟨fun _ _ _ _ h => h, ⟨fun _ _ _ _ h => h, ⟨fun _ _ _ _ h => h, ⟨fun _ _ _ _ h => h, ⟨fun _ _ _ _ h => h, ⟨fun _ _ _ _ h => h, ⟨fun _ _ _ _ h => h, ⟨fun _ _ _ _ h => h, ⟨fun _ _ _ _ h => h, ⟨fun _ _ _ _ h => h, ⟨fun _ _ _ _ h => h, ⟨fun _ _ _ _ h => h, ⟨fun _ _ _ _ h => h, trivial⟩⟩⟩⟩⟩⟩⟩⟩⟩⟩⟩⟩⟩⟩⟩
          refine CW.draw 15 (FW [fun v _ => v = .slice aO ((O).length) cO, fun v _ => v = .int .i64 ((k : Nat) : Int), fun v _ => v = .pointer (some ⟨sb_142, so_143 + k, none⟩), fun v _ => v = .slice ((O.getD k le0).a) ((O.getD k le0).xs.length) ((O.getD k le0).c), fun v _ => v = .int .i64 ((j : Nat) : Int), fun v _ => v = .pointer (some ⟨ib_150, io_151 + j * 9, none⟩), fun v _ => v = .agg #[.int .i64 (((O.getD k le0).xs.getD j itm0).at_), .int .i64 (((O.getD k le0).xs.getD j itm0).kd), .slice (((O.getD k le0).xs.getD j itm0).da) (((O.getD k le0).xs.getD j itm0).bs.length) (((O.getD k le0).xs.getD j itm0).dc), .int .i64 (((O.getD k le0).xs.getD j itm0).k0), .int .u8 (((O.getD k le0).xs.getD j itm0).k1), .bool (((O.getD k le0).xs.getD j itm0).k2), .bool (((O.getD k le0).xs.getD j itm0).k3), .int .i64 (((O.getD k le0).xs.getD j itm0).rw_), .int .i64 (((O.getD k le0).xs.getD j itm0).cl)], fun v _ => v = .agg #[.int .i64 (((O.getD k le0).xs.getD j itm0).at_), .int .i64 (((O.getD k le0).xs.getD j itm0).kd), .slice (((O.getD k le0).xs.getD j itm0).da) (((O.getD k le0).xs.getD j itm0).bs.length) (((O.getD k le0).xs.getD j itm0).dc), .int .i64 (((O.getD k le0).xs.getD j itm0).k0), .int .u8 (((O.getD k le0).xs.getD j itm0).k1), .bool (((O.getD k le0).xs.getD j itm0).k2), .bool (((O.getD k le0).xs.getD j itm0).k3), .int .i64 (((O.getD k le0).xs.getD j itm0).rw_), .int .i64 (((O.getD k le0).xs.getD j itm0).cl)], fun v _ => v = .slice aF ((F).length) cF, fun v _ => v = .int .i64 ((k : Nat) : Int), fun v _ => v = .pointer (some ⟨sb_154, so_155 + k, none⟩), fun v _ => v = .slice ((F.getD k le0).a) ((F.getD k le0).xs.length) ((F.getD k le0).c), fun v _ => v = .int .i64 ((j : Nat) : Int), fun v _ => v = .pointer (some ⟨ib_162, io_163 + j * 9, none⟩), fun v _ => v = .agg #[.int .i64 (((F.getD k le0).xs.getD j itm0).at_), .int .i64 (((F.getD k le0).xs.getD j itm0).kd), .slice (((F.getD k le0).xs.getD j itm0).da) (((F.getD k le0).xs.getD j itm0).bs.length) (((F.getD k le0).xs.getD j itm0).dc), .int .i64 (((F.getD k le0).xs.getD j itm0).k0), .int .u8 (((F.getD k le0).xs.getD j itm0).k1), .bool (((F.getD k le0).xs.getD j itm0).k2), .bool (((F.getD k le0).xs.getD j itm0).k3), .int .i64 (((F.getD k le0).xs.getD j itm0).rw_), .int .i64 (((F.getD k le0).xs.getD j itm0).cl)]]) (fun W => Gr w_128 W) (by kernel_rfl) (by kernel_rfl) (by kernel_rfl) (by kernel_rfl) (by kernel_rfl) (Gr.refl _).drew ?_ ?_
          · refine ⟨?_, ⟨?_, ⟨?_, ⟨?_, ⟨?_, ⟨?_, ⟨?_, ⟨?_, ⟨?_, ⟨?_, ⟨?_, ⟨?_, ⟨?_, ⟨?_, ⟨?_, trivial⟩⟩⟩⟩⟩⟩⟩⟩⟩⟩⟩⟩⟩⟩⟩
            · intro L ys W hB hF hP K hK
              show OpE _ _ _ W K
              exact OpE.val (.slice aO ((O).length) cO) W (by kernel_rfl) (hK _ W hB rfl (fun _ _ h => h))
            · intro L ys W hB hF hP K hK
              show OpE _ _ _ W K
              exact OpE.val (.int .i64 ((k : Nat) : Int)) W (by kernel_rfl) (hK _ W hB rfl (fun _ _ h => h))
            · intro L ys W hB hF hP K hK
              show OpE _ _ _ W K
              exact OpE.known (j := 0) (v := .slice aO ((O).length) cO) (hF 0 (hP.1 rfl)) (OpE.known (j := 1) (v := .int .i64 ((k : Nat) : Int)) (hF 1 (hP.2.1 rfl)) (OpE.val (.pointer (some ⟨sb_142, so_143 + k, none⟩)) W ((run_ixS (len := (O).length) (cap := cO) (q := .i64) (I := ((k : Nat) : Int)) (i := k) (size := 1) hsa_147 rfl (by kernel_rfl) (by kernel_rfl) rfl (by kernel_rfl) (by kernel_rfl) (by omega)).trans (by rw [Nat.mul_one])) (hK _ W hB rfl (fun _ _ h => h))))
            · intro L ys W hB hF hP K hK
              show OpE _ _ _ W K
              exact OpE.known (j := 2) (v := .pointer (some ⟨sb_142, so_143 + k, none⟩)) (hF 2 (hP.1 rfl)) (OpE.load (g := sb_142) (off := so_143 + k) (v := .slice ((O.getD k le0).a) ((O.getD k le0).xs.length) ((O.getD k le0).c)) rfl (by kernel_rfl) ((hs_129.grow hB).gr.blk hsb_148) (ldV_one (by kernel_rfl) (by kernel_rfl) (hsr_149 k (by omega))) (hK _ W hB rfl (fun _ _ h => h)))
            · intro L ys W hB hF hP K hK
              show OpE _ _ _ W K
              exact OpE.val (.int .i64 ((j : Nat) : Int)) W (by kernel_rfl) (hK _ W hB rfl (fun _ _ h => h))
            · intro L ys W hB hF hP K hK
              show OpE _ _ _ W K
              exact OpE.known (j := 3) (v := .slice ((O.getD k le0).a) ((O.getD k le0).xs.length) ((O.getD k le0).c)) (hF 3 (hP.1 rfl)) (OpE.known (j := 4) (v := .int .i64 ((j : Nat) : Int)) (hF 4 (hP.2.1 rfl)) (OpE.val (.pointer (some ⟨ib_150, io_151 + j * 9, none⟩)) W (run_ixS (len := (O.getD k le0).xs.length) (cap := (O.getD k le0).c) (q := .i64) (I := ((j : Nat) : Int)) (i := j) (size := 9) hia_152 rfl (by kernel_rfl) (by kernel_rfl) rfl (by kernel_rfl) (by kernel_rfl) (by omega)) (hK _ W hB rfl (fun _ _ h => h))))
            · intro L ys W hB hF hP K hK
              show OpE _ _ _ W K
              exact OpE.known (j := 5) (v := .pointer (some ⟨ib_150, io_151 + j * 9, none⟩)) (hF 5 (hP.1 rfl)) (OpE.load (g := ib_150) (off := io_151 + j * 9) (v := .agg #[.int .i64 (((O.getD k le0).xs.getD j itm0).at_), .int .i64 (((O.getD k le0).xs.getD j itm0).kd), .slice (((O.getD k le0).xs.getD j itm0).da) (((O.getD k le0).xs.getD j itm0).bs.length) (((O.getD k le0).xs.getD j itm0).dc), .int .i64 (((O.getD k le0).xs.getD j itm0).k0), .int .u8 (((O.getD k le0).xs.getD j itm0).k1), .bool (((O.getD k le0).xs.getD j itm0).k2), .bool (((O.getD k le0).xs.getD j itm0).k3), .int .i64 (((O.getD k le0).xs.getD j itm0).rw_), .int .i64 (((O.getD k le0).xs.getD j itm0).cl)]) rfl (by kernel_rfl) (hir_153.gr (hs_129.grow hB).gr).blk (ldV_row (k := 9) (by kernel_rfl) (by kernel_rfl) ((hir_153.gr (hs_129.grow hB).gr).many (i := j) (by omega) (j := 0) rfl (by decide)) rfl rfl) (hK _ W hB rfl (fun _ _ h => h)))
            · intro L ys W hB hF hP K hK
              show OpE _ _ _ W K
              exact OpE.known (j := 6) (v := .agg #[.int .i64 (((O.getD k le0).xs.getD j itm0).at_), .int .i64 (((O.getD k le0).xs.getD j itm0).kd), .slice (((O.getD k le0).xs.getD j itm0).da) (((O.getD k le0).xs.getD j itm0).bs.length) (((O.getD k le0).xs.getD j itm0).dc), .int .i64 (((O.getD k le0).xs.getD j itm0).k0), .int .u8 (((O.getD k le0).xs.getD j itm0).k1), .bool (((O.getD k le0).xs.getD j itm0).k2), .bool (((O.getD k le0).xs.getD j itm0).k3), .int .i64 (((O.getD k le0).xs.getD j itm0).rw_), .int .i64 (((O.getD k le0).xs.getD j itm0).cl)]) (hF 6 (hP.1 rfl)) (OpE.call 13 #[.agg #[.int .i64 (((O.getD k le0).xs.getD j itm0).at_), .int .i64 (((O.getD k le0).xs.getD j itm0).kd), .slice (((O.getD k le0).xs.getD j itm0).da) (((O.getD k le0).xs.getD j itm0).bs.length) (((O.getD k le0).xs.getD j itm0).dc), .int .i64 (((O.getD k le0).xs.getD j itm0).k0), .int .u8 (((O.getD k le0).xs.getD j itm0).k1), .bool (((O.getD k le0).xs.getD j itm0).k2), .bool (((O.getD k le0).xs.getD j itm0).k3), .int .i64 (((O.getD k le0).xs.getD j itm0).rw_), .int .i64 (((O.getD k le0).xs.getD j itm0).cl)]] W _ (by kernel_rfl) (told_any (((O.getD k le0).xs.getD j itm0).with (((O.getD k le0).xs.getD j itm0).da) (((O.getD k le0).xs.getD j itm0).dc)) W) (fun x w' hx => by obtain ⟨rfl, hg⟩ := hx; exact ⟨_, rfl, hK _ w' (hB.trans hg) rfl (fun _ _ h => FW.gr HGR hg h)⟩))
            · intro L ys W hB hF hP K hK
              show OpE _ _ _ W K
              exact OpE.val (.slice aF ((F).length) cF) W (by kernel_rfl) (hK _ W hB rfl (fun _ _ h => h))
            · intro L ys W hB hF hP K hK
              show OpE _ _ _ W K
              exact OpE.val (.int .i64 ((k : Nat) : Int)) W (by kernel_rfl) (hK _ W hB rfl (fun _ _ h => h))
            · intro L ys W hB hF hP K hK
              show OpE _ _ _ W K
              exact OpE.known (j := 8) (v := .slice aF ((F).length) cF) (hF 8 (hP.1 rfl)) (OpE.known (j := 9) (v := .int .i64 ((k : Nat) : Int)) (hF 9 (hP.2.1 rfl)) (OpE.val (.pointer (some ⟨sb_154, so_155 + k, none⟩)) W ((run_ixS (len := (F).length) (cap := cF) (q := .i64) (I := ((k : Nat) : Int)) (i := k) (size := 1) hsa_159 rfl (by kernel_rfl) (by kernel_rfl) rfl (by kernel_rfl) (by kernel_rfl) (by omega)).trans (by rw [Nat.mul_one])) (hK _ W hB rfl (fun _ _ h => h))))
            · intro L ys W hB hF hP K hK
              show OpE _ _ _ W K
              exact OpE.known (j := 10) (v := .pointer (some ⟨sb_154, so_155 + k, none⟩)) (hF 10 (hP.1 rfl)) (OpE.load (g := sb_154) (off := so_155 + k) (v := .slice ((F.getD k le0).a) ((F.getD k le0).xs.length) ((F.getD k le0).c)) rfl (by kernel_rfl) ((hs_129.grow hB).gr.blk hsb_160) (ldV_one (by kernel_rfl) (by kernel_rfl) (hsr_161 k (by omega))) (hK _ W hB rfl (fun _ _ h => h)))
            · intro L ys W hB hF hP K hK
              show OpE _ _ _ W K
              exact OpE.val (.int .i64 ((j : Nat) : Int)) W (by kernel_rfl) (hK _ W hB rfl (fun _ _ h => h))
            · intro L ys W hB hF hP K hK
              show OpE _ _ _ W K
              exact OpE.known (j := 11) (v := .slice ((F.getD k le0).a) ((F.getD k le0).xs.length) ((F.getD k le0).c)) (hF 11 (hP.1 rfl)) (OpE.known (j := 12) (v := .int .i64 ((j : Nat) : Int)) (hF 12 (hP.2.1 rfl)) (OpE.val (.pointer (some ⟨ib_162, io_163 + j * 9, none⟩)) W (run_ixS (len := (F.getD k le0).xs.length) (cap := (F.getD k le0).c) (q := .i64) (I := ((j : Nat) : Int)) (i := j) (size := 9) hia_164 rfl (by kernel_rfl) (by kernel_rfl) rfl (by kernel_rfl) (by kernel_rfl) (by omega)) (hK _ W hB rfl (fun _ _ h => h))))
            · intro L ys W hB hF hP K hK
              show OpE _ _ _ W K
              exact OpE.known (j := 13) (v := .pointer (some ⟨ib_162, io_163 + j * 9, none⟩)) (hF 13 (hP.1 rfl)) (OpE.load (g := ib_162) (off := io_163 + j * 9) (v := .agg #[.int .i64 (((F.getD k le0).xs.getD j itm0).at_), .int .i64 (((F.getD k le0).xs.getD j itm0).kd), .slice (((F.getD k le0).xs.getD j itm0).da) (((F.getD k le0).xs.getD j itm0).bs.length) (((F.getD k le0).xs.getD j itm0).dc), .int .i64 (((F.getD k le0).xs.getD j itm0).k0), .int .u8 (((F.getD k le0).xs.getD j itm0).k1), .bool (((F.getD k le0).xs.getD j itm0).k2), .bool (((F.getD k le0).xs.getD j itm0).k3), .int .i64 (((F.getD k le0).xs.getD j itm0).rw_), .int .i64 (((F.getD k le0).xs.getD j itm0).cl)]) rfl (by kernel_rfl) (hir_165.gr (hs_129.grow hB).gr).blk (ldV_row (k := 9) (by kernel_rfl) (by kernel_rfl) ((hir_165.gr (hs_129.grow hB).gr).many (i := j) (by omega) (j := 0) rfl (by decide)) rfl rfl) (hK _ W hB rfl (fun _ _ h => h)))
          · intro ys_169 w_166 hs_167 hF_168
            have hg_170 := hs_167
            have hs_167 : SH [] w_9 w_166 [] := hs_129.grow hg_170
            refine SL.knownY (j := 7) (v := .agg #[.int .i64 (((O.getD k le0).xs.getD j itm0).at_), .int .i64 (((O.getD k le0).xs.getD j itm0).kd), .slice (((O.getD k le0).xs.getD j itm0).da) (((O.getD k le0).xs.getD j itm0).bs.length) (((O.getD k le0).xs.getD j itm0).dc), .int .i64 (((O.getD k le0).xs.getD j itm0).k0), .int .u8 (((O.getD k le0).xs.getD j itm0).k1), .bool (((O.getD k le0).xs.getD j itm0).k2), .bool (((O.getD k le0).xs.getD j itm0).k3), .int .i64 (((O.getD k le0).xs.getD j itm0).rw_), .int .i64 (((O.getD k le0).xs.getD j itm0).cl)]) (show ys_169 7 = .agg #[.int .i64 (((O.getD k le0).xs.getD j itm0).at_), .int .i64 (((O.getD k le0).xs.getD j itm0).kd), .slice (((O.getD k le0).xs.getD j itm0).da) (((O.getD k le0).xs.getD j itm0).bs.length) (((O.getD k le0).xs.getD j itm0).dc), .int .i64 (((O.getD k le0).xs.getD j itm0).k0), .int .u8 (((O.getD k le0).xs.getD j itm0).k1), .bool (((O.getD k le0).xs.getD j itm0).k2), .bool (((O.getD k le0).xs.getD j itm0).k3), .int .i64 (((O.getD k le0).xs.getD j itm0).rw_), .int .i64 (((O.getD k le0).xs.getD j itm0).cl)] from hF_168 7 (by decide)) (SL.knownY (j := 14) (v := .agg #[.int .i64 (((F.getD k le0).xs.getD j itm0).at_), .int .i64 (((F.getD k le0).xs.getD j itm0).kd), .slice (((F.getD k le0).xs.getD j itm0).da) (((F.getD k le0).xs.getD j itm0).bs.length) (((F.getD k le0).xs.getD j itm0).dc), .int .i64 (((F.getD k le0).xs.getD j itm0).k0), .int .u8 (((F.getD k le0).xs.getD j itm0).k1), .bool (((F.getD k le0).xs.getD j itm0).k2), .bool (((F.getD k le0).xs.getD j itm0).k3), .int .i64 (((F.getD k le0).xs.getD j itm0).rw_), .int .i64 (((F.getD k le0).xs.getD j itm0).cl)]) (show ys_169 14 = .agg #[.int .i64 (((F.getD k le0).xs.getD j itm0).at_), .int .i64 (((F.getD k le0).xs.getD j itm0).kd), .slice (((F.getD k le0).xs.getD j itm0).da) (((F.getD k le0).xs.getD j itm0).bs.length) (((F.getD k le0).xs.getD j itm0).dc), .int .i64 (((F.getD k le0).xs.getD j itm0).k0), .int .u8 (((F.getD k le0).xs.getD j itm0).k1), .bool (((F.getD k le0).xs.getD j itm0).k2), .bool (((F.getD k le0).xs.getD j itm0).k3), .int .i64 (((F.getD k le0).xs.getD j itm0).rw_), .int .i64 (((F.getD k le0).xs.getD j itm0).cl)] from hF_168 14 (by decide)) (?_))
            clear hF_168 HGR
            refine SL.call (f := 12) (args := #[.agg #[.int .i64 (((O.getD k le0).xs.getD j itm0).at_), .int .i64 (((O.getD k le0).xs.getD j itm0).kd), .slice (((O.getD k le0).xs.getD j itm0).da) (((O.getD k le0).xs.getD j itm0).bs.length) (((O.getD k le0).xs.getD j itm0).dc), .int .i64 (((O.getD k le0).xs.getD j itm0).k0), .int .u8 (((O.getD k le0).xs.getD j itm0).k1), .bool (((O.getD k le0).xs.getD j itm0).k2), .bool (((O.getD k le0).xs.getD j itm0).k3), .int .i64 (((O.getD k le0).xs.getD j itm0).rw_), .int .i64 (((O.getD k le0).xs.getD j itm0).cl)], .agg #[.int .i64 (((F.getD k le0).xs.getD j itm0).at_), .int .i64 (((F.getD k le0).xs.getD j itm0).kd), .slice (((F.getD k le0).xs.getD j itm0).da) (((F.getD k le0).xs.getD j itm0).bs.length) (((F.getD k le0).xs.getD j itm0).dc), .int .i64 (((F.getD k le0).xs.getD j itm0).k0), .int .u8 (((F.getD k le0).xs.getD j itm0).k1), .bool (((F.getD k le0).xs.getD j itm0).k2), .bool (((F.getD k le0).xs.getD j itm0).k3), .int .i64 (((F.getD k le0).xs.getD j itm0).rw_), .int .i64 (((F.getD k le0).xs.getD j itm0).cl)]]) (w1 := w_166) rfl rfl (by kernel_rfl) (same2 ((O.getD k le0).xs.getD j itm0) ((F.getD k le0).xs.getD j itm0) (((O.getD k le0).xs.getD j itm0).da) (((F.getD k le0).xs.getD j itm0).da) (((O.getD k le0).xs.getD j itm0).dc) (((F.getD k le0).xs.getD j itm0).dc) w_166 (bare_get (bareL_get hspO k) j) (((hLFO.gr hs_167.gr) _ (getD_mem (by omega))).2 _ (getDx_mem (by omega))) (((hLF.gr hs_167.gr).1 _ (getD_mem (by omega))).2 _ (getDx_mem (by omega))) (hKW _ (getD_mem (by omega)) _ (getDx_mem (by omega)))) ?_
            rintro x w_171 ⟨rfl, hc_172⟩
            refine ⟨.bool true, rfl, ?_⟩
            have hs_173 := hs_167.grow hc_172
            refine SL.v (.bool false) ?_
            refine SL.nil ?_
            refine CW.cond_false (by kernel_rfl) ?_
            refine CW.skip ?_
            refine CW.region ?_
            refine SL.val (v := .int .i64 ((j + 1 : Nat) : Int)) (w' := w_171) rfl rfl (by have hw : IntKind.i64.wrap (((j : Nat) : Int) + 1) = ((j + 1 : Nat) : Int) := (IntWalk.i64_in _ (by omega)).trans (by omega); exact run_eqv (by kernel_rfl) (congrArg (fun z => Value.int .i64 z) hw)) ?_
            refine SL.v (.int .i64 ((j + 1 : Nat) : Int)) ?_
            refine SL.nil ?_
            exact ⟨_, ⟨j + 1, rfl, (hs_173.pick [] rfl), (by omega), (by kernel_rfl), (by kernel_rfl), (by kernel_rfl), (by kernel_rfl), (by kernel_rfl), (by kernel_rfl), (by kernel_rfl), (by kernel_rfl), (by kernel_rfl)⟩, by omega⟩
        · try rw [hb_141]
          have hqhb_141 := of_decide_eq_false hb_141
          refine CW.cond_false (by kernel_rfl) ?_
          refine CW.exit ?_
          repeat with_reducible first | refine PThen.exit ?_ | refine PBlock.out rfl ?_
          with_reducible refine PBlock.here ?_
          repeat with_reducible refine PBlock.normal ?_
          refine CW.region ?_
          refine SL.val (v := .int .i64 ((k + 1 : Nat) : Int)) (w' := w_128) rfl rfl (by have hw : IntKind.i64.wrap (((k : Nat) : Int) + 1) = ((k + 1 : Nat) : Int) := (IntWalk.i64_in _ (by omega)).trans (by omega); exact run_eqv (by kernel_rfl) (congrArg (fun z => Value.int .i64 z) hw)) ?_
          refine SL.v (.int .i64 ((k + 1 : Nat) : Int)) ?_
          refine SL.nil ?_
          exact ⟨_, ⟨k + 1, rfl, (hs_129.pick [] rfl), (by omega), (by kernel_rfl), (by kernel_rfl), (by kernel_rfl), (by kernel_rfl), (by kernel_rfl)⟩, by omega⟩
      · try rw [hb_117]
        have hqhb_117 := of_decide_eq_false hb_117
        refine CW.cond_false (by kernel_rfl) ?_
        refine CW.exit ?_
        repeat with_reducible first | refine PThen.exit ?_ | refine PBlock.out rfl ?_
        with_reducible refine PBlock.here ?_
        repeat with_reducible refine PBlock.normal ?_
        refine CW.seq ?_
        refine CW.region ?_
        refine SL.v (.bool true) ?_
        refine SL.nil ?_
        refine CW.ret ?_
        repeat with_reducible first | refine PThen.ret ?_ | refine PBlock.ret ?_
        refine PRet.tmp (t := 2) (v := .bool true) rfl rfl (by kernel_rfl) ?_
        exact ⟨rfl, (hG_12.trans hs_109.gr)⟩
end Go.Proofs.Ytaelmkkobjdgbaa
