/-
  The law StateBack (gen_sbw.py).
-/
import Derived.Test.YtfkecgkfcldffaaGreatDoorZStG
import Derived.Test.YtfkecgkfcldffaaGreatDoorZStM
import Derived.Test.YtfkecgkfcldffaaGreatDoorZSbA
namespace Go.Proofs.YtfkecgkfcldffaaGreatDoor
set_option linter.unusedSimpArgs false
set_option linter.unusedVariables false
open Go.ChangeShapes Go.WideShapes Go.RowKit
set_option linter.unusedVariables false

theorem rclean_C (c C : Cor) (w : World) (hC : (capC c).clean = C) (hok : c.Ok) : Calls Tryz.prog 13 #[.agg (cdA (capC c))] w fun e w' => e = .returned (.agg (cdA C)) ∧ Gr w w' := by
  subst hC; exact rclean_any (capC c) w (capC_ok hok)
theorem rclean_D (C d D : Cor) (w : World) (hD : (capD C d).clean = D) (hC : C.Ok) (hd : d.Ok) : Calls Tryz.prog 13 #[.agg (cdA (capD C d))] w fun e w' => e = .returned (.agg (cdA D)) ∧ Gr w w' := by
  subst hD; exact rclean_any (capD C d) w (capD_ok hC hd)
theorem setc_D {C D : Cor} (h : GoodC C) (t : Twin C D) (hd : D.Ok) (w : World) (hM : MaxOkS w) : Calls Tryz.prog 10 #[.agg (cvA D), .string (curS C)] w fun e w' => e = .returned (.tuple #[.agg (cvA (wantC C D)), .int .i64 0]) ∧ Gr w w' := by
  rw [curL_s C]
  have k := psc_any D (curL C) w hd hM (curL_b C) (curL_l C)
  rw [(cur_back h t).1, (cur_back h t).2] at k
  exact k
theorem rst_D {C D : Cor} (h : GoodC C) (t : Twin C D) (hd : D.Ok) (w : World) : Calls Tryz.prog 14 #[.agg (cvA D), .string (strOf (fmtGo C.clean.nums))] w fun e w' => e = .returned (.tuple #[.agg (cvA (allC C D)), .int .i64 0]) ∧ Gr w w' := by
  have k := srst_any D (fmtGo C.clean.nums) w hd (fmt_b _) (fmt_l C)
  rw [(rep_back h t).1, (rep_back h t).2] at k
  exact k
theorem want_ok {C D : Cor} (h : C.Ok) (k : D.Ok) : (wantC C D).Ok :=
  ⟨h.row, h.col, h.rend, h.g, h.gl, h.gr, h.sg, k.p, k.m, k.modes, k.level, k.status, h.page, k.pages⟩
theorem all_ok {C D : Cor} (h : C.Ok) (k : D.Ok) : (allC C D).Ok :=
  ⟨k.row, k.col, k.rend, k.g, k.gl, k.gr, k.sg, h.p, h.m, h.modes, h.level, h.status, k.page, h.pages⟩
theorem capG_t {k g : Int} (h : ((decide (g < 1) || decide (17 < g)) || (k == 0 && g == 5)) = true) : capG k g = 1 := by unfold capG; rw [h]; rfl
theorem capG_f {k g : Int} (h : ((decide (g < 1) || decide (17 < g)) || (k == 0 && g == 5)) = false) : capG k g = g := by unfold capG; rw [h]; rfl
set_option maxRecDepth 100000 in
set_option maxHeartbeats 8000000 in
theorem back_no1 (c d C D : Cor) (w : World) (hT : tabT w) (hM : MaxOkS w) (hsc : smallZ c = false) : Calls Tryz.prog 4 #[.agg (cdA c), .agg (cdA d)] w fun e w' => e = .returned (.bool true) ∧ Gr w w' := by
  refine calls_sx (n := 123) (args := [.agg (cdA c), .agg (cdA d)]) Tryz.func4 rfl rfl rfl ?_
  have hs0 := SH.none w
  refine CW.seq ?_
  refine CW.region ?_
  refine SL.newH (mk := fun g => .pointer (some ⟨g, 0, none⟩)) (C := (cdA c)) (T := 33) hs0 rfl rfl (by kernel_rfl) (fun g_1 w_2 hs_3 => ?_)
  have hs_3 : SH [] w w_2 [pt g_1 (cdA c) 33] := hs_3
  refine SL.newH (mk := fun g => .pointer (some ⟨g, 0, none⟩)) (C := (cdA d)) (T := 33) hs_3 rfl rfl (by kernel_rfl) (fun g_4 w_5 hs_6 => ?_)
  have hs_6 : SH [] w w_5 [pt g_1 (cdA c) 33, pt g_4 (cdA d) 33] := hs_6
  refine SL.v (.bool false) ?_
  refine SL.nil ?_
  refine CW.seq ?_
  refine CW.seq ?_
  refine CW.region ?_
  refine SL.call (f := 5) (args := #[]) (w1 := w_5) rfl rfl (by kernel_rfl) (awake_19 w_5 (hT.gr hs_6.gr)) ?_
  rintro x w_7 ⟨rfl, hc_8⟩
  refine ⟨.bool true, rfl, ?_⟩
  have hs_9 := hs_6.grow hc_8
  refine SL.v (.bool false) ?_
  refine SL.nil ?_
  refine CW.cond_false (by kernel_rfl) ?_
  refine CW.skip ?_
  refine CW.seq ?_
  refine CW.seq ?_
  refine CW.region ?_
  refine SL.load (g := g_1) (off := 0) (v := .agg (cdA c)) rfl rfl rfl (by kernel_rfl) (hs_9.pt_at (i := 0) rfl) (by kernel_rfl) ?_
  refine SL.call (f := 6) (args := #[.agg (cdA c)]) (w1 := w_7) rfl rfl (by kernel_rfl) (hsc ▸ small_any c w_7) ?_
  rintro x w_10 ⟨rfl, hc_11⟩
  refine ⟨.bool false, rfl, ?_⟩
  have hs_12 := hs_9.grow hc_11
  refine SL.v (.bool true) ?_
  refine SL.v (.bool true) ?_
  refine SL.no true ?_
  refine SL.no true ?_
  refine SL.no true ?_
  refine SL.v (.bool true) ?_
  refine SL.nil ?_
  refine CW.cond_true (by kernel_rfl) ?_
  refine CW.seq ?_
  refine CW.region ?_
  refine SL.v (.bool true) ?_
  refine SL.nil ?_
  refine CW.ret ?_
  repeat with_reducible first | refine PThen.ret ?_ | refine PBlock.ret ?_
  refine PRet.tmp (t := 4) (v := .bool true) rfl rfl (by kernel_rfl) ?_
  exact ⟨rfl, hs_12.gr⟩
set_option maxRecDepth 100000 in
set_option maxHeartbeats 8000000 in
theorem back_no2 (c d C D : Cor) (w : World) (hT : tabT w) (hM : MaxOkS w) (hsc : smallZ c = true) (hsd : smallZ d = false) : Calls Tryz.prog 4 #[.agg (cdA c), .agg (cdA d)] w fun e w' => e = .returned (.bool true) ∧ Gr w w' := by
  refine calls_sx (n := 123) (args := [.agg (cdA c), .agg (cdA d)]) Tryz.func4 rfl rfl rfl ?_
  have hs0 := SH.none w
  refine CW.seq ?_
  refine CW.region ?_
  refine SL.newH (mk := fun g => .pointer (some ⟨g, 0, none⟩)) (C := (cdA c)) (T := 33) hs0 rfl rfl (by kernel_rfl) (fun g_1 w_2 hs_3 => ?_)
  have hs_3 : SH [] w w_2 [pt g_1 (cdA c) 33] := hs_3
  refine SL.newH (mk := fun g => .pointer (some ⟨g, 0, none⟩)) (C := (cdA d)) (T := 33) hs_3 rfl rfl (by kernel_rfl) (fun g_4 w_5 hs_6 => ?_)
  have hs_6 : SH [] w w_5 [pt g_1 (cdA c) 33, pt g_4 (cdA d) 33] := hs_6
  refine SL.v (.bool false) ?_
  refine SL.nil ?_
  refine CW.seq ?_
  refine CW.seq ?_
  refine CW.region ?_
  refine SL.call (f := 5) (args := #[]) (w1 := w_5) rfl rfl (by kernel_rfl) (awake_19 w_5 (hT.gr hs_6.gr)) ?_
  rintro x w_7 ⟨rfl, hc_8⟩
  refine ⟨.bool true, rfl, ?_⟩
  have hs_9 := hs_6.grow hc_8
  refine SL.v (.bool false) ?_
  refine SL.nil ?_
  refine CW.cond_false (by kernel_rfl) ?_
  refine CW.skip ?_
  refine CW.seq ?_
  refine CW.seq ?_
  refine CW.region ?_
  refine SL.load (g := g_1) (off := 0) (v := .agg (cdA c)) rfl rfl rfl (by kernel_rfl) (hs_9.pt_at (i := 0) rfl) (by kernel_rfl) ?_
  refine SL.call (f := 6) (args := #[.agg (cdA c)]) (w1 := w_7) rfl rfl (by kernel_rfl) (hsc ▸ small_any c w_7) ?_
  rintro x w_10 ⟨rfl, hc_11⟩
  refine ⟨.bool true, rfl, ?_⟩
  have hs_12 := hs_9.grow hc_11
  refine SL.v (.bool false) ?_
  refine SL.v (.bool false) ?_
  refine SL.go ?_
  refine SL.load (g := g_4) (off := 0) (v := .agg (cdA d)) rfl rfl rfl (by kernel_rfl) (hs_12.pt_at (i := 1) rfl) (by kernel_rfl) ?_
  refine SL.go ?_
  refine SL.call (f := 6) (args := #[.agg (cdA d)]) (w1 := w_10) rfl rfl (by kernel_rfl) (hsd ▸ small_any d w_10) ?_
  rintro x w_13 ⟨rfl, hc_14⟩
  refine ⟨.bool false, rfl, ?_⟩
  have hs_15 := hs_12.grow hc_14
  refine SL.go ?_
  refine SL.v (.bool true) ?_
  refine SL.v (.bool true) ?_
  refine SL.nil ?_
  refine CW.cond_true (by kernel_rfl) ?_
  refine CW.seq ?_
  refine CW.region ?_
  refine SL.v (.bool true) ?_
  refine SL.nil ?_
  refine CW.ret ?_
  repeat with_reducible first | refine PThen.ret ?_ | refine PBlock.ret ?_
  refine PRet.tmp (t := 4) (v := .bool true) rfl rfl (by kernel_rfl) ?_
  exact ⟨rfl, hs_15.gr⟩
abbrev qSbW_0 (c : Cor) : Array Value := #[.int .i64 c.g0, .int .i64 c.g1, .int .i64 c.g2, .int .i64 c.g3]
abbrev qSbW_1 (c : Cor) : Array Value := #[.int .i64 c.row, .int .i64 c.col, .int .u8 c.rend, .bool c.kept, .bool c.wrap, .bool c.origin, .int .i64 1, .int .i64 c.g1, .int .i64 c.g2, .int .i64 c.g3, .int .i64 c.gl, .int .i64 c.gr, .int .i64 c.sg, .int .i64 c.pt, .int .i64 c.pl, .int .i64 c.pb, .int .i64 c.pr, .int .i64 c.mt, .int .i64 c.ml, .int .i64 c.mb, .int .i64 c.mr, .int .i64 c.modes, .int .i64 c.level, .bool c.eight, .bool c.stream, .int .i64 c.status, .bool c.below, .int .i64 c.page, .int .i64 c.pages]
set_option maxRecDepth 100000 in
set_option maxHeartbeats 8000000 in
theorem back_yes (c d C D : Cor) (w : World) (hT : tabT w) (hM : MaxOkS w) (hokc : c.Ok) (hokd : d.Ok) (hsc : smallZ c = true) (hsd : smallZ d = true) (hC : (capC c).clean = C) (hD : (capD C d).clean = D) (hG : GoodC C) (hW : Twin C D) : Calls Tryz.prog 4 #[.agg (cdA c), .agg (cdA d)] w fun e w' => e = .returned (.bool true) ∧ Gr w w' := by
  have hokD : D.Ok := by rw [← hD]; exact (capD_ok hG.ok hokd).clean
  have hnum := nums_small hG.ok hG.small
  have hmC := hG.ok.modes
  have hmD := hokD.modes
  have hwok := want_ok hG.ok hokD
  have haok := all_ok hG.ok hokD
  refine calls_sx (n := 123) (args := [.agg (cdA c), .agg (cdA d)]) Tryz.func4 rfl rfl rfl ?_
  have hs0 := SH.none w
  refine CW.seq ?_
  refine CW.region ?_
  refine SL.newH (mk := fun g => .pointer (some ⟨g, 0, none⟩)) (C := (cdA c)) (T := 33) hs0 rfl rfl (by kernel_rfl) (fun g_1 w_2 hs_3 => ?_)
  have hs_3 : SH [] w w_2 [pt g_1 (cdA c) 33] := hs_3
  refine SL.newH (mk := fun g => .pointer (some ⟨g, 0, none⟩)) (C := (cdA d)) (T := 33) hs_3 rfl rfl (by kernel_rfl) (fun g_4 w_5 hs_6 => ?_)
  have hs_6 : SH [] w w_5 [pt g_1 (cdA c) 33, pt g_4 (cdA d) 33] := hs_6
  refine SL.v (.bool false) ?_
  refine SL.nil ?_
  refine CW.seq ?_
  refine CW.seq ?_
  refine CW.region ?_
  refine SL.call (f := 5) (args := #[]) (w1 := w_5) rfl rfl (by kernel_rfl) (awake_19 w_5 (hT.gr hs_6.gr)) ?_
  rintro x w_7 ⟨rfl, hc_8⟩
  refine ⟨.bool true, rfl, ?_⟩
  have hs_9 := hs_6.grow hc_8
  refine SL.v (.bool false) ?_
  refine SL.nil ?_
  refine CW.cond_false (by kernel_rfl) ?_
  refine CW.skip ?_
  refine CW.seq ?_
  refine CW.seq ?_
  refine CW.region ?_
  refine SL.load (g := g_1) (off := 0) (v := .agg (cdA c)) rfl rfl rfl (by kernel_rfl) (hs_9.pt_at (i := 0) rfl) (by kernel_rfl) ?_
  refine SL.call (f := 6) (args := #[.agg (cdA c)]) (w1 := w_7) rfl rfl (by kernel_rfl) (hsc ▸ small_any c w_7) ?_
  rintro x w_10 ⟨rfl, hc_11⟩
  refine ⟨.bool true, rfl, ?_⟩
  have hs_12 := hs_9.grow hc_11
  refine SL.v (.bool false) ?_
  refine SL.v (.bool false) ?_
  refine SL.go ?_
  refine SL.load (g := g_4) (off := 0) (v := .agg (cdA d)) rfl rfl rfl (by kernel_rfl) (hs_12.pt_at (i := 1) rfl) (by kernel_rfl) ?_
  refine SL.go ?_
  refine SL.call (f := 6) (args := #[.agg (cdA d)]) (w1 := w_10) rfl rfl (by kernel_rfl) (hsd ▸ small_any d w_10) ?_
  rintro x w_13 ⟨rfl, hc_14⟩
  refine ⟨.bool true, rfl, ?_⟩
  have hs_15 := hs_12.grow hc_14
  refine SL.go ?_
  refine SL.v (.bool false) ?_
  refine SL.v (.bool false) ?_
  refine SL.nil ?_
  refine CW.cond_false (by kernel_rfl) ?_
  refine CW.skip ?_
  refine CW.seq ?_
  refine CW.seq ?_
  refine CW.region ?_
  refine SL.v (.pointer (some ⟨g_1, 0, none⟩)) ?_
  refine SL.v (.pointer (some ⟨g_1, 6, none⟩)) ?_
  refine SL.v (.pointer (some ⟨g_1, 6, none⟩)) ?_
  refine SL.load (g := g_1) (off := 6) (v := .agg (qSbW_0 c)) rfl rfl rfl (by kernel_rfl) (hs_15.pt_at (i := 0) rfl) (by kernel_rfl) ?_
  refine SL.v (.int .i64 0) ?_
  refine SL.nil ?_
  refine CW.block ?_
  refine CW.loopN 5 ?_
  refine CR.more ?_
  refine CW.seq ?_
  refine CW.region ?_
  refine SL.v (.bool true) ?_
  refine SL.nil ?_
  refine CW.seq ?_
  refine CW.cond_true (by kernel_rfl) ?_
  refine CW.skip ?_
  refine CW.seq ?_
  refine CW.mid (fun e9 w9 => SH [] w w9 [pt g_1 #[.int .i64 c.row, .int .i64 c.col, .int .u8 c.rend, .bool c.kept, .bool c.wrap, .bool c.origin, .int .i64 (capG 0 c.g0), .int .i64 c.g1, .int .i64 c.g2, .int .i64 c.g3, .int .i64 c.gl, .int .i64 c.gr, .int .i64 c.sg, .int .i64 c.pt, .int .i64 c.pl, .int .i64 c.pb, .int .i64 c.pr, .int .i64 c.mt, .int .i64 c.ml, .int .i64 c.mb, .int .i64 c.mr, .int .i64 c.modes, .int .i64 c.level, .bool c.eight, .bool c.stream, .int .i64 c.status, .bool c.below, .int .i64 c.page, .int .i64 c.pages] 33, pt g_4 (cdA d) 33] ∧ e9 2 = .pointer (some ⟨g_1, 0, none⟩) ∧ e9 3 = .pointer (some ⟨g_4, 0, none⟩) ∧ e9 4 = .bool false ∧ e9 25 = .agg (qSbW_0 c) ∧ e9 26 = .int .i64 0 ∧ e9 27 = .bool true) ?_ ?_
  · skip
    refine CW.block ?_
    refine CW.seq ?_
    refine CW.region ?_
    refine SL.v (.int .i64 0) ?_
    refine SL.v (.int .i64 c.g0) ?_
    refine SL.v (.int .i64 0) ?_
    refine SL.v (.int .i64 c.g0) ?_
    refine SL.nil ?_
    refine CW.seq ?_
    refine CW.region ?_
    refine SL.v (.int .i64 c.g0) ?_
    refine SL.v (.bool (decide (c.g0 < 1))) ?_
    refine SL.v (.bool (decide (c.g0 < 1))) ?_
    rcases Bool.eq_false_or_eq_true (decide (c.g0 < 1)) with hb_16 | hb_16
    · try rw [hb_16]
      have hqhb_16 := of_decide_eq_true hb_16
      refine SL.no true ?_
      refine SL.no true ?_
      refine SL.v (.bool true) ?_
      refine SL.v (.bool true) ?_
      refine SL.no true ?_
      refine SL.no true ?_
      refine SL.no true ?_
      refine SL.un ?_
      refine SL.un ?_
      refine SL.no true ?_
      refine SL.v (.bool true) ?_
      refine SL.nil ?_
      refine CW.cond_true (by kernel_rfl) ?_
      refine CW.region ?_
      refine SL.v (.int .i64 0) ?_
      refine SL.v (.pointer (some ⟨g_1, 0, none⟩)) ?_
      refine SL.v (.pointer (some ⟨g_1, 6, none⟩)) ?_
      refine SL.v (.pointer (some ⟨g_1, 6, none⟩)) ?_
      refine SL.v (.pointer (some ⟨g_1, 6, none⟩)) ?_
      refine SL.storeH (i := 0) (g := g_1) (off := 6) (v := .int .i64 1) (L' := [pt g_1 (qSbW_1 c) 33, pt g_4 (cdA d) 33]) hs_15 rfl rfl rfl (by kernel_rfl) (by kernel_rfl) rfl (by kernel_rfl) (by kernel_rfl) rfl (by kernel_rfl) rfl (fun w_17 hs_18 => ?_)
      refine SL.nil ?_
      have hq_ : capG 0 c.g0 = 1 := capG_t (k := 0) (g := c.g0) (by rw [hb_16]; rfl)
      rw [hq_]
      exact ⟨hs_18, (by kernel_rfl), (by kernel_rfl), (by kernel_rfl), (by kernel_rfl), (by kernel_rfl), (by kernel_rfl)⟩
    · try rw [hb_16]
      have hqhb_16 := of_decide_eq_false hb_16
      refine SL.go ?_
      refine SL.v (.int .i64 c.g0) ?_
      refine SL.go ?_
      refine SL.v (.bool (decide (17 < c.g0))) ?_
      refine SL.v (.bool (decide (17 < c.g0))) ?_
      refine SL.v (.bool (decide (17 < c.g0))) ?_
      rcases Bool.eq_false_or_eq_true (decide (17 < c.g0)) with hb_19 | hb_19
      · try rw [hb_19]
        have hqhb_19 := of_decide_eq_true hb_19
        refine SL.no true ?_
        refine SL.no true ?_
        refine SL.no true ?_
        refine SL.un ?_
        refine SL.un ?_
        refine SL.no true ?_
        refine SL.v (.bool true) ?_
        refine SL.nil ?_
        refine CW.cond_true (by kernel_rfl) ?_
        refine CW.region ?_
        refine SL.v (.int .i64 0) ?_
        refine SL.v (.pointer (some ⟨g_1, 0, none⟩)) ?_
        refine SL.v (.pointer (some ⟨g_1, 6, none⟩)) ?_
        refine SL.v (.pointer (some ⟨g_1, 6, none⟩)) ?_
        refine SL.v (.pointer (some ⟨g_1, 6, none⟩)) ?_
        refine SL.storeH (i := 0) (g := g_1) (off := 6) (v := .int .i64 1) (L' := [pt g_1 (qSbW_1 c) 33, pt g_4 (cdA d) 33]) hs_15 rfl rfl rfl (by kernel_rfl) (by kernel_rfl) rfl (by kernel_rfl) (by kernel_rfl) rfl (by kernel_rfl) rfl (fun w_20 hs_21 => ?_)
        refine SL.nil ?_
        have hq_ : capG 0 c.g0 = 1 := capG_t (k := 0) (g := c.g0) (by rw [hb_16, hb_19]; rfl)
        rw [hq_]
        exact ⟨hs_21, (by kernel_rfl), (by kernel_rfl), (by kernel_rfl), (by kernel_rfl), (by kernel_rfl), (by kernel_rfl)⟩
      · try rw [hb_19]
        have hqhb_19 := of_decide_eq_false hb_19
        refine SL.go ?_
        refine SL.v (.int .i64 0) ?_
        refine SL.go ?_
        refine SL.v (.bool true) ?_
        refine SL.go ?_
        refine SL.v (.bool true) ?_
        refine SL.go ?_
        refine SL.v (.int .i64 c.g0) ?_
        refine SL.go ?_
        refine SL.v (.bool (c.g0 == 5)) ?_
        refine SL.go ?_
        refine SL.v (.bool (c.g0 == 5)) ?_
        refine SL.v (.bool (c.g0 == 5)) ?_
        refine SL.nil ?_
        refine CW.mid (fun e9 w9 => SH [] w w9 [pt g_1 #[.int .i64 c.row, .int .i64 c.col, .int .u8 c.rend, .bool c.kept, .bool c.wrap, .bool c.origin, .int .i64 (bif (c.g0 == 5) then 1 else c.g0), .int .i64 c.g1, .int .i64 c.g2, .int .i64 c.g3, .int .i64 c.gl, .int .i64 c.gr, .int .i64 c.sg, .int .i64 c.pt, .int .i64 c.pl, .int .i64 c.pb, .int .i64 c.pr, .int .i64 c.mt, .int .i64 c.ml, .int .i64 c.mb, .int .i64 c.mr, .int .i64 c.modes, .int .i64 c.level, .bool c.eight, .bool c.stream, .int .i64 c.status, .bool c.below, .int .i64 c.page, .int .i64 c.pages] 33, pt g_4 (cdA d) 33] ∧ e9 2 = .pointer (some ⟨g_1, 0, none⟩) ∧ e9 3 = .pointer (some ⟨g_4, 0, none⟩) ∧ e9 4 = .bool false ∧ e9 5 = .int .i64 0 ∧ e9 6 = .int .i64 c.g0 ∧ e9 25 = .agg (qSbW_0 c) ∧ e9 26 = .int .i64 0 ∧ e9 27 = .bool true ∧ e9 33 = .int .i64 c.g0 ∧ e9 34 = .bool false ∧ e9 37 = .int .i64 0 ∧ e9 38 = .bool true ∧ e9 39 = .bool true ∧ e9 40 = .int .i64 c.g0 ∧ e9 41 = .bool (c.g0 == 5) ∧ e9 42 = .bool (c.g0 == 5) ∧ e9 43 = .bool (c.g0 == 5)) ?_ ?_
        · skip
          rcases Bool.eq_false_or_eq_true (c.g0 == 5) with hb_23 | hb_23
          · try rw [hb_23]
            refine CW.cond_true (by kernel_rfl) ?_
            refine CW.region ?_
            refine SL.v (.int .i64 0) ?_
            refine SL.v (.pointer (some ⟨g_1, 0, none⟩)) ?_
            refine SL.v (.pointer (some ⟨g_1, 6, none⟩)) ?_
            refine SL.v (.pointer (some ⟨g_1, 6, none⟩)) ?_
            refine SL.v (.pointer (some ⟨g_1, 6, none⟩)) ?_
            refine SL.storeH (i := 0) (g := g_1) (off := 6) (v := .int .i64 1) (L' := [pt g_1 (qSbW_1 c) 33, pt g_4 (cdA d) 33]) hs_15 rfl rfl rfl (by kernel_rfl) (by kernel_rfl) rfl (by kernel_rfl) (by kernel_rfl) rfl (by kernel_rfl) rfl (fun w_24 hs_25 => ?_)
            refine SL.nil ?_
            exact ⟨hs_25, (by kernel_rfl), (by kernel_rfl), (by kernel_rfl), (by kernel_rfl), (by kernel_rfl), (by kernel_rfl), (by kernel_rfl), (by kernel_rfl), (by kernel_rfl), (by kernel_rfl), (by kernel_rfl), (by kernel_rfl), (by kernel_rfl), (by kernel_rfl), (by kernel_rfl), (by kernel_rfl), (by kernel_rfl)⟩
          · try rw [hb_23]
            refine CW.cond_false (by kernel_rfl) ?_
            refine CW.skip ?_
            exact ⟨hs_15, (by kernel_rfl), (by kernel_rfl), (by kernel_rfl), (by kernel_rfl), (by kernel_rfl), (by kernel_rfl), (by kernel_rfl), (by kernel_rfl), (by kernel_rfl), (by kernel_rfl), (by kernel_rfl), (by kernel_rfl), (by kernel_rfl), (by kernel_rfl), (by kernel_rfl), (by kernel_rfl), (by kernel_rfl)⟩
        · rintro e_26 w_27 ⟨hs_28, hv_30, hv_31, hv_32, hv_33, hv_34, hv_35, hv_36, hv_37, hv_38, hv_39, hv_40, hv_41, hv_42, hv_43, hv_44, hv_45, hv_46⟩
          obtain ⟨e_29, rfl⟩ : ∃ e_29, e_26 = put1 (put1 (put1 (put1 (put1 (put1 (put1 (put1 (put1 (put1 (put1 (put1 (put1 (put1 (put1 (put1 (put1 e_29 2 (.pointer (some ⟨g_1, 0, none⟩))) 3 (.pointer (some ⟨g_4, 0, none⟩))) 4 (.bool false)) 5 (.int .i64 0)) 6 (.int .i64 c.g0)) 25 (.agg (qSbW_0 c))) 26 (.int .i64 0)) 27 (.bool true)) 33 (.int .i64 c.g0)) 34 (.bool false)) 37 (.int .i64 0)) 38 (.bool true)) 39 (.bool true)) 40 (.int .i64 c.g0)) 41 (.bool (c.g0 == 5))) 42 (.bool (c.g0 == 5))) 43 (.bool (c.g0 == 5)) := ⟨e_26, (put_self hv_46).trans (congrArg (fun z => put1 z 43 (.bool (c.g0 == 5))) ((put_self hv_45).trans (congrArg (fun z => put1 z 42 (.bool (c.g0 == 5))) ((put_self hv_44).trans (congrArg (fun z => put1 z 41 (.bool (c.g0 == 5))) ((put_self hv_43).trans (congrArg (fun z => put1 z 40 (.int .i64 c.g0)) ((put_self hv_42).trans (congrArg (fun z => put1 z 39 (.bool true)) ((put_self hv_41).trans (congrArg (fun z => put1 z 38 (.bool true)) ((put_self hv_40).trans (congrArg (fun z => put1 z 37 (.int .i64 0)) ((put_self hv_39).trans (congrArg (fun z => put1 z 34 (.bool false)) ((put_self hv_38).trans (congrArg (fun z => put1 z 33 (.int .i64 c.g0)) ((put_self hv_37).trans (congrArg (fun z => put1 z 27 (.bool true)) ((put_self hv_36).trans (congrArg (fun z => put1 z 26 (.int .i64 0)) ((put_self hv_35).trans (congrArg (fun z => put1 z 25 (.agg (qSbW_0 c))) ((put_self hv_34).trans (congrArg (fun z => put1 z 6 (.int .i64 c.g0)) ((put_self hv_33).trans (congrArg (fun z => put1 z 5 (.int .i64 0)) ((put_self hv_32).trans (congrArg (fun z => put1 z 4 (.bool false)) ((put_self hv_31).trans (congrArg (fun z => put1 z 3 (.pointer (some ⟨g_4, 0, none⟩))) (put_self hv_30))))))))))))))))))))))))))))))))⟩
          clear hv_30 hv_31 hv_32 hv_33 hv_34 hv_35 hv_36 hv_37 hv_38 hv_39 hv_40 hv_41 hv_42 hv_43 hv_44 hv_45 hv_46
          have hq_ : capG 0 c.g0 = bif (c.g0 == 5) then 1 else c.g0 := by unfold capG; rw [hb_16, hb_19]; rfl
          rw [hq_]
          exact ⟨hs_28, (by kernel_rfl), (by kernel_rfl), (by kernel_rfl), (by kernel_rfl), (by kernel_rfl), (by kernel_rfl)⟩
  · rintro e_47 w_48 ⟨hs_49, hv_51, hv_52, hv_53, hv_54, hv_55, hv_56⟩
    obtain ⟨e_50, rfl⟩ : ∃ e_50, e_47 = put1 (put1 (put1 (put1 (put1 (put1 e_50 2 (.pointer (some ⟨g_1, 0, none⟩))) 3 (.pointer (some ⟨g_4, 0, none⟩))) 4 (.bool false)) 25 (.agg (qSbW_0 c))) 26 (.int .i64 0)) 27 (.bool true) := ⟨e_47, (put_self hv_56).trans (congrArg (fun z => put1 z 27 (.bool true)) ((put_self hv_55).trans (congrArg (fun z => put1 z 26 (.int .i64 0)) ((put_self hv_54).trans (congrArg (fun z => put1 z 25 (.agg (qSbW_0 c))) ((put_self hv_53).trans (congrArg (fun z => put1 z 4 (.bool false)) ((put_self hv_52).trans (congrArg (fun z => put1 z 3 (.pointer (some ⟨g_4, 0, none⟩))) (put_self hv_51))))))))))⟩
    clear hv_51 hv_52 hv_53 hv_54 hv_55 hv_56
    refine CW.region ?_
    refine SL.v (.int .i64 1) ?_
    refine SL.v (.int .i64 1) ?_
    refine SL.nil ?_
    refine CR.fresh (fun e9 => e9 2 = .pointer (some ⟨g_1, 0, none⟩) ∧ e9 3 = .pointer (some ⟨g_4, 0, none⟩) ∧ e9 4 = .bool false ∧ e9 25 = .agg (qSbW_0 c) ∧ e9 26 = .int .i64 1) ⟨(by kernel_rfl), (by kernel_rfl), (by kernel_rfl), (by kernel_rfl), (by kernel_rfl)⟩ ?_
    rintro e_57 ⟨hv_59, hv_60, hv_61, hv_62, hv_63⟩
    obtain ⟨e_58, rfl⟩ : ∃ e_58, e_57 = put1 (put1 (put1 (put1 (put1 e_58 2 (.pointer (some ⟨g_1, 0, none⟩))) 3 (.pointer (some ⟨g_4, 0, none⟩))) 4 (.bool false)) 25 (.agg (qSbW_0 c))) 26 (.int .i64 1) := ⟨e_57, (put_self hv_63).trans (congrArg (fun z => put1 z 26 (.int .i64 1)) ((put_self hv_62).trans (congrArg (fun z => put1 z 25 (.agg (qSbW_0 c))) ((put_self hv_61).trans (congrArg (fun z => put1 z 4 (.bool false)) ((put_self hv_60).trans (congrArg (fun z => put1 z 3 (.pointer (some ⟨g_4, 0, none⟩))) (put_self hv_59))))))))⟩
    clear hv_59 hv_60 hv_61 hv_62 hv_63
    refine CR.more ?_
    refine CW.seq ?_
    refine CW.region ?_
    refine SL.v (.bool true) ?_
    refine SL.nil ?_
    refine CW.seq ?_
    refine CW.cond_true (by kernel_rfl) ?_
    refine CW.skip ?_
    refine CW.seq ?_
    refine CW.mid (fun e9 w9 => SH [] w w9 [pt g_1 #[.int .i64 c.row, .int .i64 c.col, .int .u8 c.rend, .bool c.kept, .bool c.wrap, .bool c.origin, .int .i64 (capG 0 c.g0), .int .i64 (capG 1 c.g1), .int .i64 c.g2, .int .i64 c.g3, .int .i64 c.gl, .int .i64 c.gr, .int .i64 c.sg, .int .i64 c.pt, .int .i64 c.pl, .int .i64 c.pb, .int .i64 c.pr, .int .i64 c.mt, .int .i64 c.ml, .int .i64 c.mb, .int .i64 c.mr, .int .i64 c.modes, .int .i64 c.level, .bool c.eight, .bool c.stream, .int .i64 c.status, .bool c.below, .int .i64 c.page, .int .i64 c.pages] 33, pt g_4 (cdA d) 33] ∧ e9 2 = .pointer (some ⟨g_1, 0, none⟩) ∧ e9 3 = .pointer (some ⟨g_4, 0, none⟩) ∧ e9 4 = .bool false ∧ e9 25 = .agg (qSbW_0 c) ∧ e9 26 = .int .i64 1 ∧ e9 27 = .bool true) ?_ ?_
    · skip
      refine CW.block ?_
      refine CW.seq ?_
      refine CW.region ?_
      refine SL.v (.int .i64 1) ?_
      refine SL.v (.int .i64 c.g1) ?_
      refine SL.v (.int .i64 1) ?_
      refine SL.v (.int .i64 c.g1) ?_
      refine SL.nil ?_
      refine CW.seq ?_
      refine CW.region ?_
      refine SL.v (.int .i64 c.g1) ?_
      refine SL.v (.bool (decide (c.g1 < 1))) ?_
      refine SL.v (.bool (decide (c.g1 < 1))) ?_
      rcases Bool.eq_false_or_eq_true (decide (c.g1 < 1)) with hb_64 | hb_64
      · try rw [hb_64]
        have hqhb_64 := of_decide_eq_true hb_64
        refine SL.no true ?_
        refine SL.no true ?_
        refine SL.v (.bool true) ?_
        refine SL.v (.bool true) ?_
        refine SL.no true ?_
        refine SL.no true ?_
        refine SL.no true ?_
        refine SL.un ?_
        refine SL.un ?_
        refine SL.no true ?_
        refine SL.v (.bool true) ?_
        refine SL.nil ?_
        refine CW.cond_true (by kernel_rfl) ?_
        refine CW.region ?_
        refine SL.v (.int .i64 1) ?_
        refine SL.v (.pointer (some ⟨g_1, 0, none⟩)) ?_
        refine SL.v (.pointer (some ⟨g_1, 6, none⟩)) ?_
        refine SL.v (.pointer (some ⟨g_1, 6, none⟩)) ?_
        refine SL.v (.pointer (some ⟨g_1, 7, none⟩)) ?_
        refine SL.storeH (i := 0) (g := g_1) (off := 7) (v := .int .i64 1) (L' := [pt g_1 #[.int .i64 c.row, .int .i64 c.col, .int .u8 c.rend, .bool c.kept, .bool c.wrap, .bool c.origin, .int .i64 (capG 0 c.g0), .int .i64 1, .int .i64 c.g2, .int .i64 c.g3, .int .i64 c.gl, .int .i64 c.gr, .int .i64 c.sg, .int .i64 c.pt, .int .i64 c.pl, .int .i64 c.pb, .int .i64 c.pr, .int .i64 c.mt, .int .i64 c.ml, .int .i64 c.mb, .int .i64 c.mr, .int .i64 c.modes, .int .i64 c.level, .bool c.eight, .bool c.stream, .int .i64 c.status, .bool c.below, .int .i64 c.page, .int .i64 c.pages] 33, pt g_4 (cdA d) 33]) hs_49 rfl rfl rfl (by kernel_rfl) (by kernel_rfl) rfl (by kernel_rfl) (by kernel_rfl) rfl (by kernel_rfl) rfl (fun w_65 hs_66 => ?_)
        refine SL.nil ?_
        have hq_ : capG 1 c.g1 = 1 := capG_t (k := 1) (g := c.g1) (by rw [hb_64]; rfl)
        rw [hq_]
        exact ⟨hs_66, (by kernel_rfl), (by kernel_rfl), (by kernel_rfl), (by kernel_rfl), (by kernel_rfl), (by kernel_rfl)⟩
      · try rw [hb_64]
        have hqhb_64 := of_decide_eq_false hb_64
        refine SL.go ?_
        refine SL.v (.int .i64 c.g1) ?_
        refine SL.go ?_
        refine SL.v (.bool (decide (17 < c.g1))) ?_
        refine SL.v (.bool (decide (17 < c.g1))) ?_
        refine SL.v (.bool (decide (17 < c.g1))) ?_
        rcases Bool.eq_false_or_eq_true (decide (17 < c.g1)) with hb_67 | hb_67
        · try rw [hb_67]
          have hqhb_67 := of_decide_eq_true hb_67
          refine SL.no true ?_
          refine SL.no true ?_
          refine SL.no true ?_
          refine SL.un ?_
          refine SL.un ?_
          refine SL.no true ?_
          refine SL.v (.bool true) ?_
          refine SL.nil ?_
          refine CW.cond_true (by kernel_rfl) ?_
          refine CW.region ?_
          refine SL.v (.int .i64 1) ?_
          refine SL.v (.pointer (some ⟨g_1, 0, none⟩)) ?_
          refine SL.v (.pointer (some ⟨g_1, 6, none⟩)) ?_
          refine SL.v (.pointer (some ⟨g_1, 6, none⟩)) ?_
          refine SL.v (.pointer (some ⟨g_1, 7, none⟩)) ?_
          refine SL.storeH (i := 0) (g := g_1) (off := 7) (v := .int .i64 1) (L' := [pt g_1 #[.int .i64 c.row, .int .i64 c.col, .int .u8 c.rend, .bool c.kept, .bool c.wrap, .bool c.origin, .int .i64 (capG 0 c.g0), .int .i64 1, .int .i64 c.g2, .int .i64 c.g3, .int .i64 c.gl, .int .i64 c.gr, .int .i64 c.sg, .int .i64 c.pt, .int .i64 c.pl, .int .i64 c.pb, .int .i64 c.pr, .int .i64 c.mt, .int .i64 c.ml, .int .i64 c.mb, .int .i64 c.mr, .int .i64 c.modes, .int .i64 c.level, .bool c.eight, .bool c.stream, .int .i64 c.status, .bool c.below, .int .i64 c.page, .int .i64 c.pages] 33, pt g_4 (cdA d) 33]) hs_49 rfl rfl rfl (by kernel_rfl) (by kernel_rfl) rfl (by kernel_rfl) (by kernel_rfl) rfl (by kernel_rfl) rfl (fun w_68 hs_69 => ?_)
          refine SL.nil ?_
          have hq_ : capG 1 c.g1 = 1 := capG_t (k := 1) (g := c.g1) (by rw [hb_64, hb_67]; rfl)
          rw [hq_]
          exact ⟨hs_69, (by kernel_rfl), (by kernel_rfl), (by kernel_rfl), (by kernel_rfl), (by kernel_rfl), (by kernel_rfl)⟩
        · try rw [hb_67]
          have hqhb_67 := of_decide_eq_false hb_67
          refine SL.go ?_
          refine SL.v (.int .i64 1) ?_
          refine SL.go ?_
          refine SL.v (.bool false) ?_
          refine SL.go ?_
          refine SL.v (.bool false) ?_
          refine SL.no false ?_
          refine SL.no false ?_
          refine SL.go ?_
          refine SL.v (.bool false) ?_
          refine SL.v (.bool false) ?_
          refine SL.nil ?_
          refine CW.cond_false (by kernel_rfl) ?_
          refine CW.skip ?_
          have hq_ : capG 1 c.g1 = c.g1 := capG_f (k := 1) (g := c.g1) (by rw [hb_64, hb_67]; rfl)
          rw [hq_]
          exact ⟨hs_49, (by kernel_rfl), (by kernel_rfl), (by kernel_rfl), (by kernel_rfl), (by kernel_rfl), (by kernel_rfl)⟩
    · rintro e_70 w_71 ⟨hs_72, hv_74, hv_75, hv_76, hv_77, hv_78, hv_79⟩
      obtain ⟨e_73, rfl⟩ : ∃ e_73, e_70 = put1 (put1 (put1 (put1 (put1 (put1 e_73 2 (.pointer (some ⟨g_1, 0, none⟩))) 3 (.pointer (some ⟨g_4, 0, none⟩))) 4 (.bool false)) 25 (.agg (qSbW_0 c))) 26 (.int .i64 1)) 27 (.bool true) := ⟨e_70, (put_self hv_79).trans (congrArg (fun z => put1 z 27 (.bool true)) ((put_self hv_78).trans (congrArg (fun z => put1 z 26 (.int .i64 1)) ((put_self hv_77).trans (congrArg (fun z => put1 z 25 (.agg (qSbW_0 c))) ((put_self hv_76).trans (congrArg (fun z => put1 z 4 (.bool false)) ((put_self hv_75).trans (congrArg (fun z => put1 z 3 (.pointer (some ⟨g_4, 0, none⟩))) (put_self hv_74))))))))))⟩
      clear hv_74 hv_75 hv_76 hv_77 hv_78 hv_79
      refine CW.region ?_
      refine SL.v (.int .i64 2) ?_
      refine SL.v (.int .i64 2) ?_
      refine SL.nil ?_
      refine CR.fresh (fun e9 => e9 2 = .pointer (some ⟨g_1, 0, none⟩) ∧ e9 3 = .pointer (some ⟨g_4, 0, none⟩) ∧ e9 4 = .bool false ∧ e9 25 = .agg (qSbW_0 c) ∧ e9 26 = .int .i64 2) ⟨(by kernel_rfl), (by kernel_rfl), (by kernel_rfl), (by kernel_rfl), (by kernel_rfl)⟩ ?_
      rintro e_80 ⟨hv_82, hv_83, hv_84, hv_85, hv_86⟩
      obtain ⟨e_81, rfl⟩ : ∃ e_81, e_80 = put1 (put1 (put1 (put1 (put1 e_81 2 (.pointer (some ⟨g_1, 0, none⟩))) 3 (.pointer (some ⟨g_4, 0, none⟩))) 4 (.bool false)) 25 (.agg (qSbW_0 c))) 26 (.int .i64 2) := ⟨e_80, (put_self hv_86).trans (congrArg (fun z => put1 z 26 (.int .i64 2)) ((put_self hv_85).trans (congrArg (fun z => put1 z 25 (.agg (qSbW_0 c))) ((put_self hv_84).trans (congrArg (fun z => put1 z 4 (.bool false)) ((put_self hv_83).trans (congrArg (fun z => put1 z 3 (.pointer (some ⟨g_4, 0, none⟩))) (put_self hv_82))))))))⟩
      clear hv_82 hv_83 hv_84 hv_85 hv_86
      refine CR.more ?_
      refine CW.seq ?_
      refine CW.region ?_
      refine SL.v (.bool true) ?_
      refine SL.nil ?_
      refine CW.seq ?_
      refine CW.cond_true (by kernel_rfl) ?_
      refine CW.skip ?_
      refine CW.seq ?_
      refine CW.mid (fun e9 w9 => SH [] w w9 [pt g_1 #[.int .i64 c.row, .int .i64 c.col, .int .u8 c.rend, .bool c.kept, .bool c.wrap, .bool c.origin, .int .i64 (capG 0 c.g0), .int .i64 (capG 1 c.g1), .int .i64 (capG 2 c.g2), .int .i64 c.g3, .int .i64 c.gl, .int .i64 c.gr, .int .i64 c.sg, .int .i64 c.pt, .int .i64 c.pl, .int .i64 c.pb, .int .i64 c.pr, .int .i64 c.mt, .int .i64 c.ml, .int .i64 c.mb, .int .i64 c.mr, .int .i64 c.modes, .int .i64 c.level, .bool c.eight, .bool c.stream, .int .i64 c.status, .bool c.below, .int .i64 c.page, .int .i64 c.pages] 33, pt g_4 (cdA d) 33] ∧ e9 2 = .pointer (some ⟨g_1, 0, none⟩) ∧ e9 3 = .pointer (some ⟨g_4, 0, none⟩) ∧ e9 4 = .bool false ∧ e9 25 = .agg (qSbW_0 c) ∧ e9 26 = .int .i64 2 ∧ e9 27 = .bool true) ?_ ?_
      · skip
        refine CW.block ?_
        refine CW.seq ?_
        refine CW.region ?_
        refine SL.v (.int .i64 2) ?_
        refine SL.v (.int .i64 c.g2) ?_
        refine SL.v (.int .i64 2) ?_
        refine SL.v (.int .i64 c.g2) ?_
        refine SL.nil ?_
        refine CW.seq ?_
        refine CW.region ?_
        refine SL.v (.int .i64 c.g2) ?_
        refine SL.v (.bool (decide (c.g2 < 1))) ?_
        refine SL.v (.bool (decide (c.g2 < 1))) ?_
        rcases Bool.eq_false_or_eq_true (decide (c.g2 < 1)) with hb_87 | hb_87
        · try rw [hb_87]
          have hqhb_87 := of_decide_eq_true hb_87
          refine SL.no true ?_
          refine SL.no true ?_
          refine SL.v (.bool true) ?_
          refine SL.v (.bool true) ?_
          refine SL.no true ?_
          refine SL.no true ?_
          refine SL.no true ?_
          refine SL.un ?_
          refine SL.un ?_
          refine SL.no true ?_
          refine SL.v (.bool true) ?_
          refine SL.nil ?_
          refine CW.cond_true (by kernel_rfl) ?_
          refine CW.region ?_
          refine SL.v (.int .i64 2) ?_
          refine SL.v (.pointer (some ⟨g_1, 0, none⟩)) ?_
          refine SL.v (.pointer (some ⟨g_1, 6, none⟩)) ?_
          refine SL.v (.pointer (some ⟨g_1, 6, none⟩)) ?_
          refine SL.v (.pointer (some ⟨g_1, 8, none⟩)) ?_
          refine SL.storeH (i := 0) (g := g_1) (off := 8) (v := .int .i64 1) (L' := [pt g_1 #[.int .i64 c.row, .int .i64 c.col, .int .u8 c.rend, .bool c.kept, .bool c.wrap, .bool c.origin, .int .i64 (capG 0 c.g0), .int .i64 (capG 1 c.g1), .int .i64 1, .int .i64 c.g3, .int .i64 c.gl, .int .i64 c.gr, .int .i64 c.sg, .int .i64 c.pt, .int .i64 c.pl, .int .i64 c.pb, .int .i64 c.pr, .int .i64 c.mt, .int .i64 c.ml, .int .i64 c.mb, .int .i64 c.mr, .int .i64 c.modes, .int .i64 c.level, .bool c.eight, .bool c.stream, .int .i64 c.status, .bool c.below, .int .i64 c.page, .int .i64 c.pages] 33, pt g_4 (cdA d) 33]) hs_72 rfl rfl rfl (by kernel_rfl) (by kernel_rfl) rfl (by kernel_rfl) (by kernel_rfl) rfl (by kernel_rfl) rfl (fun w_88 hs_89 => ?_)
          refine SL.nil ?_
          have hq_ : capG 2 c.g2 = 1 := capG_t (k := 2) (g := c.g2) (by rw [hb_87]; rfl)
          rw [hq_]
          exact ⟨hs_89, (by kernel_rfl), (by kernel_rfl), (by kernel_rfl), (by kernel_rfl), (by kernel_rfl), (by kernel_rfl)⟩
        · try rw [hb_87]
          have hqhb_87 := of_decide_eq_false hb_87
          refine SL.go ?_
          refine SL.v (.int .i64 c.g2) ?_
          refine SL.go ?_
          refine SL.v (.bool (decide (17 < c.g2))) ?_
          refine SL.v (.bool (decide (17 < c.g2))) ?_
          refine SL.v (.bool (decide (17 < c.g2))) ?_
          rcases Bool.eq_false_or_eq_true (decide (17 < c.g2)) with hb_90 | hb_90
          · try rw [hb_90]
            have hqhb_90 := of_decide_eq_true hb_90
            refine SL.no true ?_
            refine SL.no true ?_
            refine SL.no true ?_
            refine SL.un ?_
            refine SL.un ?_
            refine SL.no true ?_
            refine SL.v (.bool true) ?_
            refine SL.nil ?_
            refine CW.cond_true (by kernel_rfl) ?_
            refine CW.region ?_
            refine SL.v (.int .i64 2) ?_
            refine SL.v (.pointer (some ⟨g_1, 0, none⟩)) ?_
            refine SL.v (.pointer (some ⟨g_1, 6, none⟩)) ?_
            refine SL.v (.pointer (some ⟨g_1, 6, none⟩)) ?_
            refine SL.v (.pointer (some ⟨g_1, 8, none⟩)) ?_
            refine SL.storeH (i := 0) (g := g_1) (off := 8) (v := .int .i64 1) (L' := [pt g_1 #[.int .i64 c.row, .int .i64 c.col, .int .u8 c.rend, .bool c.kept, .bool c.wrap, .bool c.origin, .int .i64 (capG 0 c.g0), .int .i64 (capG 1 c.g1), .int .i64 1, .int .i64 c.g3, .int .i64 c.gl, .int .i64 c.gr, .int .i64 c.sg, .int .i64 c.pt, .int .i64 c.pl, .int .i64 c.pb, .int .i64 c.pr, .int .i64 c.mt, .int .i64 c.ml, .int .i64 c.mb, .int .i64 c.mr, .int .i64 c.modes, .int .i64 c.level, .bool c.eight, .bool c.stream, .int .i64 c.status, .bool c.below, .int .i64 c.page, .int .i64 c.pages] 33, pt g_4 (cdA d) 33]) hs_72 rfl rfl rfl (by kernel_rfl) (by kernel_rfl) rfl (by kernel_rfl) (by kernel_rfl) rfl (by kernel_rfl) rfl (fun w_91 hs_92 => ?_)
            refine SL.nil ?_
            have hq_ : capG 2 c.g2 = 1 := capG_t (k := 2) (g := c.g2) (by rw [hb_87, hb_90]; rfl)
            rw [hq_]
            exact ⟨hs_92, (by kernel_rfl), (by kernel_rfl), (by kernel_rfl), (by kernel_rfl), (by kernel_rfl), (by kernel_rfl)⟩
          · try rw [hb_90]
            have hqhb_90 := of_decide_eq_false hb_90
            refine SL.go ?_
            refine SL.v (.int .i64 2) ?_
            refine SL.go ?_
            refine SL.v (.bool false) ?_
            refine SL.go ?_
            refine SL.v (.bool false) ?_
            refine SL.no false ?_
            refine SL.no false ?_
            refine SL.go ?_
            refine SL.v (.bool false) ?_
            refine SL.v (.bool false) ?_
            refine SL.nil ?_
            refine CW.cond_false (by kernel_rfl) ?_
            refine CW.skip ?_
            have hq_ : capG 2 c.g2 = c.g2 := capG_f (k := 2) (g := c.g2) (by rw [hb_87, hb_90]; rfl)
            rw [hq_]
            exact ⟨hs_72, (by kernel_rfl), (by kernel_rfl), (by kernel_rfl), (by kernel_rfl), (by kernel_rfl), (by kernel_rfl)⟩
      · rintro e_93 w_94 ⟨hs_95, hv_97, hv_98, hv_99, hv_100, hv_101, hv_102⟩
        obtain ⟨e_96, rfl⟩ : ∃ e_96, e_93 = put1 (put1 (put1 (put1 (put1 (put1 e_96 2 (.pointer (some ⟨g_1, 0, none⟩))) 3 (.pointer (some ⟨g_4, 0, none⟩))) 4 (.bool false)) 25 (.agg (qSbW_0 c))) 26 (.int .i64 2)) 27 (.bool true) := ⟨e_93, (put_self hv_102).trans (congrArg (fun z => put1 z 27 (.bool true)) ((put_self hv_101).trans (congrArg (fun z => put1 z 26 (.int .i64 2)) ((put_self hv_100).trans (congrArg (fun z => put1 z 25 (.agg (qSbW_0 c))) ((put_self hv_99).trans (congrArg (fun z => put1 z 4 (.bool false)) ((put_self hv_98).trans (congrArg (fun z => put1 z 3 (.pointer (some ⟨g_4, 0, none⟩))) (put_self hv_97))))))))))⟩
        clear hv_97 hv_98 hv_99 hv_100 hv_101 hv_102
        refine CW.region ?_
        refine SL.v (.int .i64 3) ?_
        refine SL.v (.int .i64 3) ?_
        refine SL.nil ?_
        refine CR.fresh (fun e9 => e9 2 = .pointer (some ⟨g_1, 0, none⟩) ∧ e9 3 = .pointer (some ⟨g_4, 0, none⟩) ∧ e9 4 = .bool false ∧ e9 25 = .agg (qSbW_0 c) ∧ e9 26 = .int .i64 3) ⟨(by kernel_rfl), (by kernel_rfl), (by kernel_rfl), (by kernel_rfl), (by kernel_rfl)⟩ ?_
        rintro e_103 ⟨hv_105, hv_106, hv_107, hv_108, hv_109⟩
        obtain ⟨e_104, rfl⟩ : ∃ e_104, e_103 = put1 (put1 (put1 (put1 (put1 e_104 2 (.pointer (some ⟨g_1, 0, none⟩))) 3 (.pointer (some ⟨g_4, 0, none⟩))) 4 (.bool false)) 25 (.agg (qSbW_0 c))) 26 (.int .i64 3) := ⟨e_103, (put_self hv_109).trans (congrArg (fun z => put1 z 26 (.int .i64 3)) ((put_self hv_108).trans (congrArg (fun z => put1 z 25 (.agg (qSbW_0 c))) ((put_self hv_107).trans (congrArg (fun z => put1 z 4 (.bool false)) ((put_self hv_106).trans (congrArg (fun z => put1 z 3 (.pointer (some ⟨g_4, 0, none⟩))) (put_self hv_105))))))))⟩
        clear hv_105 hv_106 hv_107 hv_108 hv_109
        refine CR.more ?_
        refine CW.seq ?_
        refine CW.region ?_
        refine SL.v (.bool true) ?_
        refine SL.nil ?_
        refine CW.seq ?_
        refine CW.cond_true (by kernel_rfl) ?_
        refine CW.skip ?_
        refine CW.seq ?_
        refine CW.mid (fun e9 w9 => SH [] w w9 [pt g_1 #[.int .i64 c.row, .int .i64 c.col, .int .u8 c.rend, .bool c.kept, .bool c.wrap, .bool c.origin, .int .i64 (capG 0 c.g0), .int .i64 (capG 1 c.g1), .int .i64 (capG 2 c.g2), .int .i64 (capG 3 c.g3), .int .i64 c.gl, .int .i64 c.gr, .int .i64 c.sg, .int .i64 c.pt, .int .i64 c.pl, .int .i64 c.pb, .int .i64 c.pr, .int .i64 c.mt, .int .i64 c.ml, .int .i64 c.mb, .int .i64 c.mr, .int .i64 c.modes, .int .i64 c.level, .bool c.eight, .bool c.stream, .int .i64 c.status, .bool c.below, .int .i64 c.page, .int .i64 c.pages] 33, pt g_4 (cdA d) 33] ∧ e9 2 = .pointer (some ⟨g_1, 0, none⟩) ∧ e9 3 = .pointer (some ⟨g_4, 0, none⟩) ∧ e9 4 = .bool false ∧ e9 25 = .agg (qSbW_0 c) ∧ e9 26 = .int .i64 3 ∧ e9 27 = .bool true) ?_ ?_
        · skip
          refine CW.block ?_
          refine CW.seq ?_
          refine CW.region ?_
          refine SL.v (.int .i64 3) ?_
          refine SL.v (.int .i64 c.g3) ?_
          refine SL.v (.int .i64 3) ?_
          refine SL.v (.int .i64 c.g3) ?_
          refine SL.nil ?_
          refine CW.seq ?_
          refine CW.region ?_
          refine SL.v (.int .i64 c.g3) ?_
          refine SL.v (.bool (decide (c.g3 < 1))) ?_
          refine SL.v (.bool (decide (c.g3 < 1))) ?_
          rcases Bool.eq_false_or_eq_true (decide (c.g3 < 1)) with hb_110 | hb_110
          · try rw [hb_110]
            have hqhb_110 := of_decide_eq_true hb_110
            refine SL.no true ?_
            refine SL.no true ?_
            refine SL.v (.bool true) ?_
            refine SL.v (.bool true) ?_
            refine SL.no true ?_
            refine SL.no true ?_
            refine SL.no true ?_
            refine SL.un ?_
            refine SL.un ?_
            refine SL.no true ?_
            refine SL.v (.bool true) ?_
            refine SL.nil ?_
            refine CW.cond_true (by kernel_rfl) ?_
            refine CW.region ?_
            refine SL.v (.int .i64 3) ?_
            refine SL.v (.pointer (some ⟨g_1, 0, none⟩)) ?_
            refine SL.v (.pointer (some ⟨g_1, 6, none⟩)) ?_
            refine SL.v (.pointer (some ⟨g_1, 6, none⟩)) ?_
            refine SL.v (.pointer (some ⟨g_1, 9, none⟩)) ?_
            refine SL.storeH (i := 0) (g := g_1) (off := 9) (v := .int .i64 1) (L' := [pt g_1 #[.int .i64 c.row, .int .i64 c.col, .int .u8 c.rend, .bool c.kept, .bool c.wrap, .bool c.origin, .int .i64 (capG 0 c.g0), .int .i64 (capG 1 c.g1), .int .i64 (capG 2 c.g2), .int .i64 1, .int .i64 c.gl, .int .i64 c.gr, .int .i64 c.sg, .int .i64 c.pt, .int .i64 c.pl, .int .i64 c.pb, .int .i64 c.pr, .int .i64 c.mt, .int .i64 c.ml, .int .i64 c.mb, .int .i64 c.mr, .int .i64 c.modes, .int .i64 c.level, .bool c.eight, .bool c.stream, .int .i64 c.status, .bool c.below, .int .i64 c.page, .int .i64 c.pages] 33, pt g_4 (cdA d) 33]) hs_95 rfl rfl rfl (by kernel_rfl) (by kernel_rfl) rfl (by kernel_rfl) (by kernel_rfl) rfl (by kernel_rfl) rfl (fun w_111 hs_112 => ?_)
            refine SL.nil ?_
            have hq_ : capG 3 c.g3 = 1 := capG_t (k := 3) (g := c.g3) (by rw [hb_110]; rfl)
            rw [hq_]
            exact ⟨hs_112, (by kernel_rfl), (by kernel_rfl), (by kernel_rfl), (by kernel_rfl), (by kernel_rfl), (by kernel_rfl)⟩
          · try rw [hb_110]
            have hqhb_110 := of_decide_eq_false hb_110
            refine SL.go ?_
            refine SL.v (.int .i64 c.g3) ?_
            refine SL.go ?_
            refine SL.v (.bool (decide (17 < c.g3))) ?_
            refine SL.v (.bool (decide (17 < c.g3))) ?_
            refine SL.v (.bool (decide (17 < c.g3))) ?_
            rcases Bool.eq_false_or_eq_true (decide (17 < c.g3)) with hb_113 | hb_113
            · try rw [hb_113]
              have hqhb_113 := of_decide_eq_true hb_113
              refine SL.no true ?_
              refine SL.no true ?_
              refine SL.no true ?_
              refine SL.un ?_
              refine SL.un ?_
              refine SL.no true ?_
              refine SL.v (.bool true) ?_
              refine SL.nil ?_
              refine CW.cond_true (by kernel_rfl) ?_
              refine CW.region ?_
              refine SL.v (.int .i64 3) ?_
              refine SL.v (.pointer (some ⟨g_1, 0, none⟩)) ?_
              refine SL.v (.pointer (some ⟨g_1, 6, none⟩)) ?_
              refine SL.v (.pointer (some ⟨g_1, 6, none⟩)) ?_
              refine SL.v (.pointer (some ⟨g_1, 9, none⟩)) ?_
              refine SL.storeH (i := 0) (g := g_1) (off := 9) (v := .int .i64 1) (L' := [pt g_1 #[.int .i64 c.row, .int .i64 c.col, .int .u8 c.rend, .bool c.kept, .bool c.wrap, .bool c.origin, .int .i64 (capG 0 c.g0), .int .i64 (capG 1 c.g1), .int .i64 (capG 2 c.g2), .int .i64 1, .int .i64 c.gl, .int .i64 c.gr, .int .i64 c.sg, .int .i64 c.pt, .int .i64 c.pl, .int .i64 c.pb, .int .i64 c.pr, .int .i64 c.mt, .int .i64 c.ml, .int .i64 c.mb, .int .i64 c.mr, .int .i64 c.modes, .int .i64 c.level, .bool c.eight, .bool c.stream, .int .i64 c.status, .bool c.below, .int .i64 c.page, .int .i64 c.pages] 33, pt g_4 (cdA d) 33]) hs_95 rfl rfl rfl (by kernel_rfl) (by kernel_rfl) rfl (by kernel_rfl) (by kernel_rfl) rfl (by kernel_rfl) rfl (fun w_114 hs_115 => ?_)
              refine SL.nil ?_
              have hq_ : capG 3 c.g3 = 1 := capG_t (k := 3) (g := c.g3) (by rw [hb_110, hb_113]; rfl)
              rw [hq_]
              exact ⟨hs_115, (by kernel_rfl), (by kernel_rfl), (by kernel_rfl), (by kernel_rfl), (by kernel_rfl), (by kernel_rfl)⟩
            · try rw [hb_113]
              have hqhb_113 := of_decide_eq_false hb_113
              refine SL.go ?_
              refine SL.v (.int .i64 3) ?_
              refine SL.go ?_
              refine SL.v (.bool false) ?_
              refine SL.go ?_
              refine SL.v (.bool false) ?_
              refine SL.no false ?_
              refine SL.no false ?_
              refine SL.go ?_
              refine SL.v (.bool false) ?_
              refine SL.v (.bool false) ?_
              refine SL.nil ?_
              refine CW.cond_false (by kernel_rfl) ?_
              refine CW.skip ?_
              have hq_ : capG 3 c.g3 = c.g3 := capG_f (k := 3) (g := c.g3) (by rw [hb_110, hb_113]; rfl)
              rw [hq_]
              exact ⟨hs_95, (by kernel_rfl), (by kernel_rfl), (by kernel_rfl), (by kernel_rfl), (by kernel_rfl), (by kernel_rfl)⟩
        · rintro e_116 w_117 ⟨hs_118, hv_120, hv_121, hv_122, hv_123, hv_124, hv_125⟩
          obtain ⟨e_119, rfl⟩ : ∃ e_119, e_116 = put1 (put1 (put1 (put1 (put1 (put1 e_119 2 (.pointer (some ⟨g_1, 0, none⟩))) 3 (.pointer (some ⟨g_4, 0, none⟩))) 4 (.bool false)) 25 (.agg (qSbW_0 c))) 26 (.int .i64 3)) 27 (.bool true) := ⟨e_116, (put_self hv_125).trans (congrArg (fun z => put1 z 27 (.bool true)) ((put_self hv_124).trans (congrArg (fun z => put1 z 26 (.int .i64 3)) ((put_self hv_123).trans (congrArg (fun z => put1 z 25 (.agg (qSbW_0 c))) ((put_self hv_122).trans (congrArg (fun z => put1 z 4 (.bool false)) ((put_self hv_121).trans (congrArg (fun z => put1 z 3 (.pointer (some ⟨g_4, 0, none⟩))) (put_self hv_120))))))))))⟩
          clear hv_120 hv_121 hv_122 hv_123 hv_124 hv_125
          refine CW.region ?_
          refine SL.v (.int .i64 4) ?_
          refine SL.v (.int .i64 4) ?_
          refine SL.nil ?_
          refine CR.fresh (fun e9 => e9 2 = .pointer (some ⟨g_1, 0, none⟩) ∧ e9 3 = .pointer (some ⟨g_4, 0, none⟩) ∧ e9 4 = .bool false ∧ e9 25 = .agg (qSbW_0 c) ∧ e9 26 = .int .i64 4) ⟨(by kernel_rfl), (by kernel_rfl), (by kernel_rfl), (by kernel_rfl), (by kernel_rfl)⟩ ?_
          rintro e_126 ⟨hv_128, hv_129, hv_130, hv_131, hv_132⟩
          obtain ⟨e_127, rfl⟩ : ∃ e_127, e_126 = put1 (put1 (put1 (put1 (put1 e_127 2 (.pointer (some ⟨g_1, 0, none⟩))) 3 (.pointer (some ⟨g_4, 0, none⟩))) 4 (.bool false)) 25 (.agg (qSbW_0 c))) 26 (.int .i64 4) := ⟨e_126, (put_self hv_132).trans (congrArg (fun z => put1 z 26 (.int .i64 4)) ((put_self hv_131).trans (congrArg (fun z => put1 z 25 (.agg (qSbW_0 c))) ((put_self hv_130).trans (congrArg (fun z => put1 z 4 (.bool false)) ((put_self hv_129).trans (congrArg (fun z => put1 z 3 (.pointer (some ⟨g_4, 0, none⟩))) (put_self hv_128))))))))⟩
          clear hv_128 hv_129 hv_130 hv_131 hv_132
          refine CR.more ?_
          refine CW.seq ?_
          refine CW.region ?_
          refine SL.v (.bool false) ?_
          refine SL.nil ?_
          refine CW.seq ?_
          refine CW.cond_false (by kernel_rfl) ?_
          refine CW.exit ?_
          repeat with_reducible first | refine PThen.exit ?_ | refine PBlock.out rfl ?_
          with_reducible refine PBlock.here ?_
          repeat with_reducible refine PBlock.normal ?_
          refine CW.seq ?_
          refine CW.seq ?_
          refine CW.region ?_
          refine SL.v (.pointer (some ⟨g_1, 0, none⟩)) ?_
          refine SL.v (.pointer (some ⟨g_1, 6, none⟩)) ?_
          refine SL.v (.pointer (some ⟨g_1, 11, none⟩)) ?_
          refine SL.load (g := g_1) (off := 11) (v := .int .i64 c.gr) rfl rfl rfl (by kernel_rfl) (hs_118.pt_at (i := 0) rfl) (by kernel_rfl) ?_
          refine SL.v (.bool (c.gr == 0)) ?_
          refine SL.nil ?_
          refine CW.mid (fun e9 w9 => SH [] w w9 [pt g_1 #[.int .i64 c.row, .int .i64 c.col, .int .u8 c.rend, .bool c.kept, .bool c.wrap, .bool c.origin, .int .i64 (capG 0 c.g0), .int .i64 (capG 1 c.g1), .int .i64 (capG 2 c.g2), .int .i64 (capG 3 c.g3), .int .i64 c.gl, .int .i64 (bif (c.gr == 0) then 2 else c.gr), .int .i64 c.sg, .int .i64 c.pt, .int .i64 c.pl, .int .i64 c.pb, .int .i64 c.pr, .int .i64 c.mt, .int .i64 c.ml, .int .i64 c.mb, .int .i64 c.mr, .int .i64 c.modes, .int .i64 c.level, .bool c.eight, .bool c.stream, .int .i64 c.status, .bool c.below, .int .i64 c.page, .int .i64 c.pages] 33, pt g_4 (cdA d) 33] ∧ e9 2 = .pointer (some ⟨g_1, 0, none⟩) ∧ e9 3 = .pointer (some ⟨g_4, 0, none⟩) ∧ e9 4 = .bool false) ?_ ?_
          · skip
            rcases Bool.eq_false_or_eq_true (c.gr == 0) with hb_134 | hb_134
            · try rw [hb_134]
              refine CW.cond_true (by kernel_rfl) ?_
              refine CW.region ?_
              refine SL.v (.pointer (some ⟨g_1, 0, none⟩)) ?_
              refine SL.v (.pointer (some ⟨g_1, 6, none⟩)) ?_
              refine SL.v (.pointer (some ⟨g_1, 11, none⟩)) ?_
              refine SL.storeH (i := 0) (g := g_1) (off := 11) (v := .int .i64 2) (L' := [pt g_1 #[.int .i64 c.row, .int .i64 c.col, .int .u8 c.rend, .bool c.kept, .bool c.wrap, .bool c.origin, .int .i64 (capG 0 c.g0), .int .i64 (capG 1 c.g1), .int .i64 (capG 2 c.g2), .int .i64 (capG 3 c.g3), .int .i64 c.gl, .int .i64 2, .int .i64 c.sg, .int .i64 c.pt, .int .i64 c.pl, .int .i64 c.pb, .int .i64 c.pr, .int .i64 c.mt, .int .i64 c.ml, .int .i64 c.mb, .int .i64 c.mr, .int .i64 c.modes, .int .i64 c.level, .bool c.eight, .bool c.stream, .int .i64 c.status, .bool c.below, .int .i64 c.page, .int .i64 c.pages] 33, pt g_4 (cdA d) 33]) hs_118 rfl rfl rfl (by kernel_rfl) (by kernel_rfl) rfl (by kernel_rfl) (by kernel_rfl) rfl (by kernel_rfl) rfl (fun w_135 hs_136 => ?_)
              refine SL.nil ?_
              exact ⟨hs_136, (by kernel_rfl), (by kernel_rfl), (by kernel_rfl)⟩
            · try rw [hb_134]
              refine CW.cond_false (by kernel_rfl) ?_
              refine CW.skip ?_
              exact ⟨hs_118, (by kernel_rfl), (by kernel_rfl), (by kernel_rfl)⟩
          · rintro e_137 w_138 ⟨hs_139, hv_141, hv_142, hv_143⟩
            obtain ⟨e_140, rfl⟩ : ∃ e_140, e_137 = put1 (put1 (put1 e_140 2 (.pointer (some ⟨g_1, 0, none⟩))) 3 (.pointer (some ⟨g_4, 0, none⟩))) 4 (.bool false) := ⟨e_137, (put_self hv_143).trans (congrArg (fun z => put1 z 4 (.bool false)) ((put_self hv_142).trans (congrArg (fun z => put1 z 3 (.pointer (some ⟨g_4, 0, none⟩))) (put_self hv_141))))⟩
            clear hv_141 hv_142 hv_143
            refine CW.seq ?_
            refine CW.region ?_
            refine SL.load (g := g_1) (off := 0) (v := .agg #[.int .i64 c.row, .int .i64 c.col, .int .u8 c.rend, .bool c.kept, .bool c.wrap, .bool c.origin, .int .i64 (capG 0 c.g0), .int .i64 (capG 1 c.g1), .int .i64 (capG 2 c.g2), .int .i64 (capG 3 c.g3), .int .i64 c.gl, .int .i64 (bif (c.gr == 0) then 2 else c.gr), .int .i64 c.sg, .int .i64 c.pt, .int .i64 c.pl, .int .i64 c.pb, .int .i64 c.pr, .int .i64 c.mt, .int .i64 c.ml, .int .i64 c.mb, .int .i64 c.mr, .int .i64 c.modes, .int .i64 c.level, .bool c.eight, .bool c.stream, .int .i64 c.status, .bool c.below, .int .i64 c.page, .int .i64 c.pages]) rfl rfl rfl (by kernel_rfl) (hs_139.pt_at (i := 0) rfl) (by kernel_rfl) ?_
            refine SL.call (f := 13) (args := #[.agg #[.int .i64 c.row, .int .i64 c.col, .int .u8 c.rend, .bool c.kept, .bool c.wrap, .bool c.origin, .int .i64 (capG 0 c.g0), .int .i64 (capG 1 c.g1), .int .i64 (capG 2 c.g2), .int .i64 (capG 3 c.g3), .int .i64 c.gl, .int .i64 (bif (c.gr == 0) then 2 else c.gr), .int .i64 c.sg, .int .i64 c.pt, .int .i64 c.pl, .int .i64 c.pb, .int .i64 c.pr, .int .i64 c.mt, .int .i64 c.ml, .int .i64 c.mb, .int .i64 c.mr, .int .i64 c.modes, .int .i64 c.level, .bool c.eight, .bool c.stream, .int .i64 c.status, .bool c.below, .int .i64 c.page, .int .i64 c.pages]]) (w1 := w_138) rfl rfl (by kernel_rfl) (rclean_C c C w_138 hC hokc) ?_
            rintro x w_144 ⟨rfl, hc_145⟩
            refine ⟨.agg (cdA C), rfl, ?_⟩
            have hs_146 := hs_139.grow hc_145
            refine SL.storeH (i := 0) (g := g_1) (off := 0) (v := .agg (cdA C)) (L' := [pt g_1 (cdA C) 33, pt g_4 (cdA d) 33]) hs_146 rfl rfl rfl (by kernel_rfl) (by kernel_rfl) rfl (by kernel_rfl) (by kernel_rfl) rfl (by kernel_rfl) rfl (fun w_147 hs_148 => ?_)
            refine SL.nil ?_
            refine CW.seq ?_
            obtain ⟨fj_149, hpj_150, hfr_151⟩ := hs_148.frame (Pre := [pt g_4 (cdA d) 33]) (Rest := [pt g_1 (cdA C) 33]) [1] rfl
            have HGR : GrL [fun v _ => v = .pointer (some ⟨g_1, 13, none⟩), fun v _ => v = .pointer (some ⟨g_1, 13, none⟩), fun v _ => v = .agg #[.int .i64 C.pt, .int .i64 C.pl, .int .i64 C.pb, .int .i64 C.pr], fun v _ => v = .pointer (some ⟨g_1, 28, none⟩), fun v _ => v = .int .i64 C.pages, fun v _ => v = .pointer (some ⟨g_4, 13, none⟩), fun v _ => v = .pointer (some ⟨g_4, 13, none⟩), fun _ _ => True] := ⟨fun _ _ _ _ h => h, ⟨fun _ _ _ _ h => h, ⟨fun _ _ _ _ h => h, ⟨fun _ _ _ _ h => h, ⟨fun _ _ _ _ h => h, ⟨fun _ _ _ _ h => h, ⟨fun _ _ _ _ h => h, ⟨fun _ _ _ _ h => h, trivial⟩⟩⟩⟩⟩⟩⟩⟩
            have HPU : PureL [fun v _ => v = .pointer (some ⟨g_1, 13, none⟩), fun v _ => v = .pointer (some ⟨g_1, 13, none⟩), fun v _ => v = .agg #[.int .i64 C.pt, .int .i64 C.pl, .int .i64 C.pb, .int .i64 C.pr], fun v _ => v = .pointer (some ⟨g_1, 28, none⟩), fun v _ => v = .int .i64 C.pages, fun v _ => v = .pointer (some ⟨g_4, 13, none⟩), fun v _ => v = .pointer (some ⟨g_4, 13, none⟩), fun _ _ => True] := ⟨fun _ _ _ h => h, ⟨fun _ _ _ h => h, ⟨fun _ _ _ h => h, ⟨fun _ _ _ h => h, ⟨fun _ _ _ h => h, ⟨fun _ _ _ h => h, ⟨fun _ _ _ h => h, ⟨fun _ _ _ h => h, trivial⟩⟩⟩⟩⟩⟩⟩⟩
            refine CW.drawG 8 (FW [fun v _ => v = .pointer (some ⟨g_1, 13, none⟩), fun v _ => v = .pointer (some ⟨g_1, 13, none⟩), fun v _ => v = .agg #[.int .i64 C.pt, .int .i64 C.pl, .int .i64 C.pb, .int .i64 C.pr], fun v _ => v = .pointer (some ⟨g_1, 28, none⟩), fun v _ => v = .int .i64 C.pages, fun v _ => v = .pointer (some ⟨g_4, 13, none⟩), fun v _ => v = .pointer (some ⟨g_4, 13, none⟩), fun _ _ => True]) (BaseS [7] fj_149 w_147 [[pt g_4 (cdA d) 33], [pt g_4 #[.int .i64 d.row, .int .i64 d.col, .int .u8 d.rend, .bool d.kept, .bool d.wrap, .bool d.origin, .int .i64 d.g0, .int .i64 d.g1, .int .i64 d.g2, .int .i64 d.g3, .int .i64 d.gl, .int .i64 d.gr, .int .i64 d.sg, .int .i64 C.pt, .int .i64 C.pl, .int .i64 C.pb, .int .i64 C.pr, .int .i64 d.mt, .int .i64 d.ml, .int .i64 d.mb, .int .i64 d.mr, .int .i64 d.modes, .int .i64 d.level, .bool d.eight, .bool d.stream, .int .i64 d.status, .bool d.below, .int .i64 d.page, .int .i64 d.pages] 33]]) (by kernel_rfl) (by kernel_rfl) (by kernel_rfl) (by kernel_rfl) (by kernel_rfl) (BaseS.init hpj_150) ?_ ?_
            · refine ⟨?_, ⟨?_, ⟨?_, ⟨?_, ⟨?_, ⟨?_, ⟨?_, ⟨?_, trivial⟩⟩⟩⟩⟩⟩⟩⟩
              · intro L ys W hC hn hB hF hP K hK
                show OpE _ _ _ W K
                exact OpE.val (.pointer (some ⟨g_1, 13, none⟩)) W (by kernel_rfl) (hK _ W (hB.step (by decide) (Gr.refl W)) rfl (fun _ _ h => h))
              · intro L ys W hC hn hB hF hP K hK
                show OpE _ _ _ W K
                exact OpE.known (j := 0) (v := .pointer (some ⟨g_1, 13, none⟩)) (hF 0 (hP.1 rfl)) (OpE.val (.pointer (some ⟨g_1, 13, none⟩)) W (by kernel_rfl) (hK _ W (hB.step (by decide) (Gr.refl W)) rfl (fun _ _ h => h)))
              · intro L ys W hC hn hB hF hP K hK
                show OpE _ _ _ W K
                exact OpE.known (j := 1) (v := .pointer (some ⟨g_1, 13, none⟩)) (hF 1 (hP.1 rfl)) (OpE.load (g := g_1) (off := 13) (v := .agg #[.int .i64 C.pt, .int .i64 C.pl, .int .i64 C.pb, .int .i64 C.pr]) rfl (by kernel_rfl) ((show SH [] w W [pt g_1 (cdA C) 33] from hfr_151 W [] [] hB.upd rfl (by simp)).pt_at (i := 0) rfl) (by kernel_rfl) (hK _ W (hB.step (by decide) (Gr.refl W)) rfl (fun _ _ h => h)))
              · intro L ys W hC hn hB hF hP K hK
                show OpE _ _ _ W K
                exact OpE.val (.pointer (some ⟨g_1, 28, none⟩)) W (by kernel_rfl) (hK _ W (hB.step (by decide) (Gr.refl W)) rfl (fun _ _ h => h))
              · intro L ys W hC hn hB hF hP K hK
                show OpE _ _ _ W K
                exact OpE.known (j := 3) (v := .pointer (some ⟨g_1, 28, none⟩)) (hF 3 (hP.1 rfl)) (OpE.load (g := g_1) (off := 28) (v := .int .i64 C.pages) rfl (by kernel_rfl) ((show SH [] w W [pt g_1 (cdA C) 33] from hfr_151 W [] [] hB.upd rfl (by simp)).pt_at (i := 0) rfl) (by kernel_rfl) (hK _ W (hB.step (by decide) (Gr.refl W)) rfl (fun _ _ h => h)))
              · intro L ys W hC hn hB hF hP K hK
                show OpE _ _ _ W K
                exact OpE.val (.pointer (some ⟨g_4, 13, none⟩)) W (by kernel_rfl) (hK _ W (hB.step (by decide) (Gr.refl W)) rfl (fun _ _ h => h))
              · intro L ys W hC hn hB hF hP K hK
                show OpE _ _ _ W K
                exact OpE.known (j := 5) (v := .pointer (some ⟨g_4, 13, none⟩)) (hF 5 (hP.1 rfl)) (OpE.val (.pointer (some ⟨g_4, 13, none⟩)) W (by kernel_rfl) (hK _ W (hB.step (by decide) (Gr.refl W)) rfl (fun _ _ h => h)))
              · intro L ys W hC hn hB hF hP K hK
                show OpE _ _ _ W K
                have hst := hB.at_ (k := 0) (P := [pt g_4 (cdA d) 33]) rfl (by decide) rfl prev_0 (next_at 7 rfl hn)
                obtain ⟨hq_, hu_⟩ := hst.setCells (i := 0) (g := g_4) (C := (cdA d)) (T := 33) rfl 13 ((.agg #[.int .i64 C.pt, .int .i64 C.pl, .int .i64 C.pb, .int .i64 C.pr] : Value).cells.toList)
                exact OpE.known (j := 6) (v := .pointer (some ⟨g_4, 13, none⟩)) (hF 6 (hP.1 rfl)) (OpE.known (j := 2) (v := .agg #[.int .i64 C.pt, .int .i64 C.pl, .int .i64 C.pb, .int .i64 C.pr]) (hF 2 (hP.2.2.2.2.1 rfl)) (OpE.store (g := g_4) (off := 13) (C := (cdA d)) (T := 33) (v := .agg #[.int .i64 C.pt, .int .i64 C.pl, .int .i64 C.pb, .int .i64 C.pr]) rfl (by kernel_rfl) (by kernel_rfl) (hst.pt_at (i := 0) rfl) (by kernel_rfl) (by kernel_rfl) (by kernel_rfl) (hK _ _ (hB.done (k := 0) (P := [pt g_4 (cdA d) 33]) (P' := [pt g_4 #[.int .i64 d.row, .int .i64 d.col, .int .u8 d.rend, .bool d.kept, .bool d.wrap, .bool d.origin, .int .i64 d.g0, .int .i64 d.g1, .int .i64 d.g2, .int .i64 d.g3, .int .i64 d.gl, .int .i64 d.gr, .int .i64 d.sg, .int .i64 C.pt, .int .i64 C.pl, .int .i64 C.pb, .int .i64 C.pr, .int .i64 d.mt, .int .i64 d.ml, .int .i64 d.mb, .int .i64 d.mr, .int .i64 d.modes, .int .i64 d.level, .bool d.eight, .bool d.stream, .int .i64 d.status, .bool d.below, .int .i64 d.page, .int .i64 d.pages] 33]) rfl (by decide) rfl rfl rfl prev_0 hn hu_ hq_) trivial (fun _ _ h => FW.pureL HPU h))))
            · intro ys_156 w_152 hb_153 hF_155
              have hst_ := hb_153.at_ (k := 1) (P := [pt g_4 #[.int .i64 d.row, .int .i64 d.col, .int .u8 d.rend, .bool d.kept, .bool d.wrap, .bool d.origin, .int .i64 d.g0, .int .i64 d.g1, .int .i64 d.g2, .int .i64 d.g3, .int .i64 d.gl, .int .i64 d.gr, .int .i64 d.sg, .int .i64 C.pt, .int .i64 C.pl, .int .i64 C.pb, .int .i64 C.pr, .int .i64 d.mt, .int .i64 d.ml, .int .i64 d.mb, .int .i64 d.mr, .int .i64 d.modes, .int .i64 d.level, .bool d.eight, .bool d.stream, .int .i64 d.status, .bool d.below, .int .i64 d.page, .int .i64 d.pages] 33]) rfl (by decide) rfl (prev_at (k := 0) 7 rfl (by decide)) (next_end rfl)
              have hs_154 : SH [] w w_152 [pt g_4 #[.int .i64 d.row, .int .i64 d.col, .int .u8 d.rend, .bool d.kept, .bool d.wrap, .bool d.origin, .int .i64 d.g0, .int .i64 d.g1, .int .i64 d.g2, .int .i64 d.g3, .int .i64 d.gl, .int .i64 d.gr, .int .i64 d.sg, .int .i64 C.pt, .int .i64 C.pl, .int .i64 C.pb, .int .i64 C.pr, .int .i64 d.mt, .int .i64 d.ml, .int .i64 d.mb, .int .i64 d.mr, .int .i64 d.modes, .int .i64 d.level, .bool d.eight, .bool d.stream, .int .i64 d.status, .bool d.below, .int .i64 d.page, .int .i64 d.pages] 33, pt g_1 (cdA C) 33] := hfr_151 w_152 _ fj_149 hb_153.upd hst_ (fun g hg => .inl hg)
              refine SL.knownY (j := 4) (v := .int .i64 C.pages) (show ys_156 4 = .int .i64 C.pages from hF_155 4 (by decide)) (?_)
              clear hF_155 HGR HPU hst_ hb_153 hfr_151 hpj_150
              refine SL.v (.pointer (some ⟨g_4, 28, none⟩)) ?_
              refine SL.storeH (i := 0) (g := g_4) (off := 28) (v := .int .i64 C.pages) (L' := [pt g_4 #[.int .i64 d.row, .int .i64 d.col, .int .u8 d.rend, .bool d.kept, .bool d.wrap, .bool d.origin, .int .i64 d.g0, .int .i64 d.g1, .int .i64 d.g2, .int .i64 d.g3, .int .i64 d.gl, .int .i64 d.gr, .int .i64 d.sg, .int .i64 C.pt, .int .i64 C.pl, .int .i64 C.pb, .int .i64 C.pr, .int .i64 d.mt, .int .i64 d.ml, .int .i64 d.mb, .int .i64 d.mr, .int .i64 d.modes, .int .i64 d.level, .bool d.eight, .bool d.stream, .int .i64 d.status, .bool d.below, .int .i64 d.page, .int .i64 C.pages] 33, pt g_1 (cdA C) 33]) hs_154 rfl rfl rfl (by kernel_rfl) (by kernel_rfl) rfl (by kernel_rfl) (by kernel_rfl) rfl (by kernel_rfl) rfl (fun w_157 hs_158 => ?_)
              refine SL.nil ?_
              refine CW.seq ?_
              refine CW.region ?_
              refine SL.load (g := g_4) (off := 0) (v := .agg #[.int .i64 d.row, .int .i64 d.col, .int .u8 d.rend, .bool d.kept, .bool d.wrap, .bool d.origin, .int .i64 d.g0, .int .i64 d.g1, .int .i64 d.g2, .int .i64 d.g3, .int .i64 d.gl, .int .i64 d.gr, .int .i64 d.sg, .int .i64 C.pt, .int .i64 C.pl, .int .i64 C.pb, .int .i64 C.pr, .int .i64 d.mt, .int .i64 d.ml, .int .i64 d.mb, .int .i64 d.mr, .int .i64 d.modes, .int .i64 d.level, .bool d.eight, .bool d.stream, .int .i64 d.status, .bool d.below, .int .i64 d.page, .int .i64 C.pages]) rfl rfl rfl (by kernel_rfl) (hs_158.pt_at (i := 0) rfl) (by kernel_rfl) ?_
              refine SL.call (f := 13) (args := #[.agg #[.int .i64 d.row, .int .i64 d.col, .int .u8 d.rend, .bool d.kept, .bool d.wrap, .bool d.origin, .int .i64 d.g0, .int .i64 d.g1, .int .i64 d.g2, .int .i64 d.g3, .int .i64 d.gl, .int .i64 d.gr, .int .i64 d.sg, .int .i64 C.pt, .int .i64 C.pl, .int .i64 C.pb, .int .i64 C.pr, .int .i64 d.mt, .int .i64 d.ml, .int .i64 d.mb, .int .i64 d.mr, .int .i64 d.modes, .int .i64 d.level, .bool d.eight, .bool d.stream, .int .i64 d.status, .bool d.below, .int .i64 d.page, .int .i64 C.pages]]) (w1 := w_157) rfl rfl (by kernel_rfl) (rclean_D C d D w_157 hD hG.ok hokd) ?_
              rintro x w_159 ⟨rfl, hc_160⟩
              refine ⟨.agg (cdA D), rfl, ?_⟩
              have hs_161 := hs_158.grow hc_160
              refine SL.storeH (i := 0) (g := g_4) (off := 0) (v := .agg (cdA D)) (L' := [pt g_4 (cdA D) 33, pt g_1 (cdA C) 33]) hs_161 rfl rfl rfl (by kernel_rfl) (by kernel_rfl) rfl (by kernel_rfl) (by kernel_rfl) rfl (by kernel_rfl) rfl (fun w_162 hs_163 => ?_)
              refine SL.nil ?_
              refine CW.seq ?_
              have KPY : KeepY 10 9 0 [fun ys _ => ys 0 = .agg (cdA D), fun ys _ => ys 1 = .agg (cvA D), fun ys _ => ys 2 = .agg (cdA C), fun ys _ => ys 3 = .agg (cvA C), fun ys _ => ys 4 = .string (curS C), fun ys _ => ys 5 = .tuple #[.agg #[.int .i64 C.row, .int .i64 C.col, .int .u8 C.rend, .bool C.kept, .bool C.wrap, .bool C.origin, .int .i64 C.g0, .int .i64 C.g1, .int .i64 C.g2, .int .i64 C.g3, .int .i64 C.gl, .int .i64 C.gr, .int .i64 C.sg, .int .i64 D.pt, .int .i64 D.pl, .int .i64 D.pb, .int .i64 D.pr, .int .i64 D.mt, .int .i64 D.ml, .int .i64 D.mb, .int .i64 D.mr, .int .u32 D.modes, .int .i64 D.level, .bool D.eight, .bool D.stream, .int .i64 D.status, .bool D.below, .int .i64 C.page, .int .i64 D.pages], .int .i64 0], fun ys _ => ys 6 = .tuple #[.agg #[.int .i64 C.row, .int .i64 C.col, .int .u8 C.rend, .bool C.kept, .bool C.wrap, .bool C.origin, .int .i64 C.g0, .int .i64 C.g1, .int .i64 C.g2, .int .i64 C.g3, .int .i64 C.gl, .int .i64 C.gr, .int .i64 C.sg, .int .i64 D.pt, .int .i64 D.pl, .int .i64 D.pb, .int .i64 D.pr, .int .i64 D.mt, .int .i64 D.ml, .int .i64 D.mb, .int .i64 D.mr, .int .u32 D.modes, .int .i64 D.level, .bool D.eight, .bool D.stream, .int .i64 D.status, .bool D.below, .int .i64 C.page, .int .i64 D.pages], .int .i64 0], fun ys _ => ys 7 = .agg #[.int .i64 C.row, .int .i64 C.col, .int .u8 C.rend, .bool C.kept, .bool C.wrap, .bool C.origin, .int .i64 C.g0, .int .i64 C.g1, .int .i64 C.g2, .int .i64 C.g3, .int .i64 C.gl, .int .i64 C.gr, .int .i64 C.sg, .int .i64 D.pt, .int .i64 D.pl, .int .i64 D.pb, .int .i64 D.pr, .int .i64 D.mt, .int .i64 D.ml, .int .i64 D.mb, .int .i64 D.mr, .int .u32 D.modes, .int .i64 D.level, .bool D.eight, .bool D.stream, .int .i64 D.status, .bool D.below, .int .i64 C.page, .int .i64 D.pages], fun ys _ => ys 8 = .int .i64 0, OwnB w_162 9 29 45, PutB w_162 9 #[.int .i64 C.row, .int .i64 C.col, .int .u8 C.rend, .bool C.kept, .bool C.wrap, .bool C.origin, .int .i64 C.g0, .int .i64 C.g1, .int .i64 C.g2, .int .i64 C.g3, .int .i64 C.gl, .int .i64 C.gr, .int .i64 C.sg, .int .i64 D.pt, .int .i64 D.pl, .int .i64 D.pb, .int .i64 D.pr, .int .i64 D.mt, .int .i64 D.ml, .int .i64 D.mb, .int .i64 D.mr, .int .u32 D.modes, .int .i64 D.level, .bool D.eight, .bool D.stream, .int .i64 D.status, .bool D.below, .int .i64 C.page, .int .i64 D.pages] 45] := ⟨fun i_ hne hal ys v W W1 hg hf => (setYne hne).trans hf, ⟨fun i_ hne hal ys v W W1 hg hf => (setYne hne).trans hf, ⟨fun i_ hne hal ys v W W1 hg hf => (setYne hne).trans hf, ⟨fun i_ hne hal ys v W W1 hg hf => (setYne hne).trans hf, ⟨fun i_ hne hal ys v W W1 hg hf => (setYne hne).trans hf, ⟨fun i_ hne hal ys v W W1 hg hf => (setYne hne).trans hf, ⟨fun i_ hne hal ys v W W1 hg hf => (setYne hne).trans hf, ⟨fun i_ hne hal ys v W W1 hg hf => (setYne hne).trans hf, ⟨fun i_ hne hal ys v W W1 hg hf => (setYne hne).trans hf, ⟨fun i_ hne hal ys v W W1 hg hf => OwnB.keep hf hne hg, ⟨fun i_ hne hal ys v W W1 hg hf => PutB.keep hf (hal rfl).symm hg, trivial⟩⟩⟩⟩⟩⟩⟩⟩⟩⟩⟩
              have KPS : PutY 10 9 w_162 #[.int .i64 C.row, .int .i64 C.col, .int .u8 C.rend, .bool C.kept, .bool C.wrap, .bool C.origin, .int .i64 C.g0, .int .i64 C.g1, .int .i64 C.g2, .int .i64 C.g3, .int .i64 C.gl, .int .i64 C.gr, .int .i64 C.sg, .int .i64 D.pt, .int .i64 D.pl, .int .i64 D.pb, .int .i64 D.pr, .int .i64 D.mt, .int .i64 D.ml, .int .i64 D.mb, .int .i64 D.mr, .int .u32 D.modes, .int .i64 D.level, .bool D.eight, .bool D.stream, .int .i64 D.status, .bool D.below, .int .i64 C.page, .int .i64 D.pages] 45 0 [fun ys _ => ys 0 = .agg (cdA D), fun ys _ => ys 1 = .agg (cvA D), fun ys _ => ys 2 = .agg (cdA C), fun ys _ => ys 3 = .agg (cvA C), fun ys _ => ys 4 = .string (curS C), fun ys _ => ys 5 = .tuple #[.agg #[.int .i64 C.row, .int .i64 C.col, .int .u8 C.rend, .bool C.kept, .bool C.wrap, .bool C.origin, .int .i64 C.g0, .int .i64 C.g1, .int .i64 C.g2, .int .i64 C.g3, .int .i64 C.gl, .int .i64 C.gr, .int .i64 C.sg, .int .i64 D.pt, .int .i64 D.pl, .int .i64 D.pb, .int .i64 D.pr, .int .i64 D.mt, .int .i64 D.ml, .int .i64 D.mb, .int .i64 D.mr, .int .u32 D.modes, .int .i64 D.level, .bool D.eight, .bool D.stream, .int .i64 D.status, .bool D.below, .int .i64 C.page, .int .i64 D.pages], .int .i64 0], fun ys _ => ys 6 = .tuple #[.agg #[.int .i64 C.row, .int .i64 C.col, .int .u8 C.rend, .bool C.kept, .bool C.wrap, .bool C.origin, .int .i64 C.g0, .int .i64 C.g1, .int .i64 C.g2, .int .i64 C.g3, .int .i64 C.gl, .int .i64 C.gr, .int .i64 C.sg, .int .i64 D.pt, .int .i64 D.pl, .int .i64 D.pb, .int .i64 D.pr, .int .i64 D.mt, .int .i64 D.ml, .int .i64 D.mb, .int .i64 D.mr, .int .u32 D.modes, .int .i64 D.level, .bool D.eight, .bool D.stream, .int .i64 D.status, .bool D.below, .int .i64 C.page, .int .i64 D.pages], .int .i64 0], fun ys _ => ys 7 = .agg #[.int .i64 C.row, .int .i64 C.col, .int .u8 C.rend, .bool C.kept, .bool C.wrap, .bool C.origin, .int .i64 C.g0, .int .i64 C.g1, .int .i64 C.g2, .int .i64 C.g3, .int .i64 C.gl, .int .i64 C.gr, .int .i64 C.sg, .int .i64 D.pt, .int .i64 D.pl, .int .i64 D.pb, .int .i64 D.pr, .int .i64 D.mt, .int .i64 D.ml, .int .i64 D.mb, .int .i64 D.mr, .int .u32 D.modes, .int .i64 D.level, .bool D.eight, .bool D.stream, .int .i64 D.status, .bool D.below, .int .i64 C.page, .int .i64 D.pages], fun ys _ => ys 8 = .int .i64 0, OwnB w_162 9 29 45, PutB w_162 9 #[.int .i64 C.row, .int .i64 C.col, .int .u8 C.rend, .bool C.kept, .bool C.wrap, .bool C.origin, .int .i64 C.g0, .int .i64 C.g1, .int .i64 C.g2, .int .i64 C.g3, .int .i64 C.gl, .int .i64 C.gr, .int .i64 C.sg, .int .i64 D.pt, .int .i64 D.pl, .int .i64 D.pb, .int .i64 D.pr, .int .i64 D.mt, .int .i64 D.ml, .int .i64 D.mb, .int .i64 D.mr, .int .u32 D.modes, .int .i64 D.level, .bool D.eight, .bool D.stream, .int .i64 D.status, .bool D.below, .int .i64 C.page, .int .i64 D.pages] 45] := ⟨fun hne ys v W W1 g hv hge hb hf => (setYne hne).trans hf, ⟨fun hne ys v W W1 g hv hge hb hf => (setYne hne).trans hf, ⟨fun hne ys v W W1 g hv hge hb hf => (setYne hne).trans hf, ⟨fun hne ys v W W1 g hv hge hb hf => (setYne hne).trans hf, ⟨fun hne ys v W W1 g hv hge hb hf => (setYne hne).trans hf, ⟨fun hne ys v W W1 g hv hge hb hf => (setYne hne).trans hf, ⟨fun hne ys v W W1 g hv hge hb hf => (setYne hne).trans hf, ⟨fun hne ys v W W1 g hv hge hb hf => (setYne hne).trans hf, ⟨fun hne ys v W W1 g hv hge hb hf => (setYne hne).trans hf, ⟨fun hne ys v W W1 g hv hge hb hf => OwnB.put hf (by decide) hv hge hb rfl, ⟨fun hne ys v W W1 g hv hge hb hf => absurd rfl hne, trivial⟩⟩⟩⟩⟩⟩⟩⟩⟩⟩⟩
              refine CW.drawY 11 (FWY [fun ys _ => ys 0 = .agg (cdA D), fun ys _ => ys 1 = .agg (cvA D), fun ys _ => ys 2 = .agg (cdA C), fun ys _ => ys 3 = .agg (cvA C), fun ys _ => ys 4 = .string (curS C), fun ys _ => ys 5 = .tuple #[.agg #[.int .i64 C.row, .int .i64 C.col, .int .u8 C.rend, .bool C.kept, .bool C.wrap, .bool C.origin, .int .i64 C.g0, .int .i64 C.g1, .int .i64 C.g2, .int .i64 C.g3, .int .i64 C.gl, .int .i64 C.gr, .int .i64 C.sg, .int .i64 D.pt, .int .i64 D.pl, .int .i64 D.pb, .int .i64 D.pr, .int .i64 D.mt, .int .i64 D.ml, .int .i64 D.mb, .int .i64 D.mr, .int .u32 D.modes, .int .i64 D.level, .bool D.eight, .bool D.stream, .int .i64 D.status, .bool D.below, .int .i64 C.page, .int .i64 D.pages], .int .i64 0], fun ys _ => ys 6 = .tuple #[.agg #[.int .i64 C.row, .int .i64 C.col, .int .u8 C.rend, .bool C.kept, .bool C.wrap, .bool C.origin, .int .i64 C.g0, .int .i64 C.g1, .int .i64 C.g2, .int .i64 C.g3, .int .i64 C.gl, .int .i64 C.gr, .int .i64 C.sg, .int .i64 D.pt, .int .i64 D.pl, .int .i64 D.pb, .int .i64 D.pr, .int .i64 D.mt, .int .i64 D.ml, .int .i64 D.mb, .int .i64 D.mr, .int .u32 D.modes, .int .i64 D.level, .bool D.eight, .bool D.stream, .int .i64 D.status, .bool D.below, .int .i64 C.page, .int .i64 D.pages], .int .i64 0], fun ys _ => ys 7 = .agg #[.int .i64 C.row, .int .i64 C.col, .int .u8 C.rend, .bool C.kept, .bool C.wrap, .bool C.origin, .int .i64 C.g0, .int .i64 C.g1, .int .i64 C.g2, .int .i64 C.g3, .int .i64 C.gl, .int .i64 C.gr, .int .i64 C.sg, .int .i64 D.pt, .int .i64 D.pl, .int .i64 D.pb, .int .i64 D.pr, .int .i64 D.mt, .int .i64 D.ml, .int .i64 D.mb, .int .i64 D.mr, .int .u32 D.modes, .int .i64 D.level, .bool D.eight, .bool D.stream, .int .i64 D.status, .bool D.below, .int .i64 C.page, .int .i64 D.pages], fun ys _ => ys 8 = .int .i64 0, OwnB w_162 9 29 45, PutB w_162 9 #[.int .i64 C.row, .int .i64 C.col, .int .u8 C.rend, .bool C.kept, .bool C.wrap, .bool C.origin, .int .i64 C.g0, .int .i64 C.g1, .int .i64 C.g2, .int .i64 C.g3, .int .i64 C.gl, .int .i64 C.gr, .int .i64 C.sg, .int .i64 D.pt, .int .i64 D.pl, .int .i64 D.pb, .int .i64 D.pr, .int .i64 D.mt, .int .i64 D.ml, .int .i64 D.mb, .int .i64 D.mr, .int .u32 D.modes, .int .i64 D.level, .bool D.eight, .bool D.stream, .int .i64 D.status, .bool D.below, .int .i64 C.page, .int .i64 D.pages] 45]) (fun _ W => Gr w_162 W) (by kernel_rfl) (by kernel_rfl) (by kernel_rfl) (by kernel_rfl) (by kernel_rfl) (Gr.refl _).drew ?_ ?_
              · refine ⟨?_, ⟨?_, ⟨?_, ⟨?_, ⟨?_, ⟨?_, ⟨?_, ⟨?_, ⟨?_, ⟨?_, ⟨?_, trivial⟩⟩⟩⟩⟩⟩⟩⟩⟩⟩⟩
                · intro L ys W hC hn hB hF hP K hK
                  show OpE _ _ _ W K
                  exact OpE.load (g := g_4) (off := 0) (v := .agg (cdA D)) rfl (by kernel_rfl) ((hs_163.grow hB).pt_at (i := 0) rfl) (by kernel_rfl) (hK _ W hB setYat (by intro k_ hk_ hf_; have hne_ : k_ ≠ 0 := (fun e => hn (by subst e; exact hk_)); exact FWY.keep KPY (by rw [Nat.zero_add]; exact hne_) (by rw [Nat.zero_add]; exact fun _ => by decide) (Gr.refl W) hf_))
                · intro L ys W hC hn hB hF hP K hK
                  show OpE _ _ _ W K
                  exact OpE.known (j := 0) (v := .agg (cdA D)) (hF 0 (hP.1 rfl)) (OpE.call 7 #[.agg (cdA D)] W _ (by kernel_rfl) (own19 D W hmD) (fun x w' hx => by obtain ⟨rfl, hg⟩ := hx; exact ⟨_, rfl, hK _ w' (hB.trans hg) setYat (by intro k_ hk_ hf_; have hne_ : k_ ≠ 1 := (fun e => hn (by subst e; exact hk_)); exact FWY.keep KPY (by rw [Nat.zero_add]; exact hne_) (by rw [Nat.zero_add]; exact fun _ => by decide) hg hf_)⟩))
                · intro L ys W hC hn hB hF hP K hK
                  show OpE _ _ _ W K
                  exact OpE.load (g := g_1) (off := 0) (v := .agg (cdA C)) rfl (by kernel_rfl) ((hs_163.grow hB).pt_at (i := 1) rfl) (by kernel_rfl) (hK _ W hB setYat (by intro k_ hk_ hf_; have hne_ : k_ ≠ 2 := (fun e => hn (by subst e; exact hk_)); exact FWY.keep KPY (by rw [Nat.zero_add]; exact hne_) (by rw [Nat.zero_add]; exact fun _ => by decide) (Gr.refl W) hf_))
                · intro L ys W hC hn hB hF hP K hK
                  show OpE _ _ _ W K
                  exact OpE.known (j := 2) (v := .agg (cdA C)) (hF 2 (hP.1 rfl)) (OpE.call 7 #[.agg (cdA C)] W _ (by kernel_rfl) (own19 C W hmC) (fun x w' hx => by obtain ⟨rfl, hg⟩ := hx; exact ⟨_, rfl, hK _ w' (hB.trans hg) setYat (by intro k_ hk_ hf_; have hne_ : k_ ≠ 3 := (fun e => hn (by subst e; exact hk_)); exact FWY.keep KPY (by rw [Nat.zero_add]; exact hne_) (by rw [Nat.zero_add]; exact fun _ => by decide) hg hf_)⟩))
                · intro L ys W hC hn hB hF hP K hK
                  show OpE _ _ _ W K
                  exact OpE.known (j := 3) (v := .agg (cvA C)) (hF 3 (hP.2.1 rfl)) (OpE.call 8 #[.agg (cvA C)] W _ (by kernel_rfl) (cur_any C W hG.ok (hT.gr (hs_163.grow hB).gr)) (fun x w' hx => by obtain ⟨rfl, hg⟩ := hx; exact ⟨_, rfl, hK _ w' (hB.trans hg) setYat (by intro k_ hk_ hf_; have hne_ : k_ ≠ 4 := (fun e => hn (by subst e; exact hk_)); exact FWY.keep KPY (by rw [Nat.zero_add]; exact hne_) (by rw [Nat.zero_add]; exact fun _ => by decide) hg hf_)⟩))
                · intro L ys W hC hn hB hF hP K hK
                  show OpE _ _ _ W K
                  exact OpE.known (j := 1) (v := .agg (cvA D)) (hF 1 (hP.1 rfl)) (OpE.known (j := 4) (v := .string (curS C)) (hF 4 (hP.2.2.1 rfl)) (OpE.call 10 #[.agg (cvA D), .string (curS C)] W _ (by kernel_rfl) (setc_D hG hW hokD W (hM.gr (hs_163.grow hB).gr)) (fun x w' hx => by obtain ⟨rfl, hg⟩ := hx; exact ⟨_, rfl, hK _ w' (hB.trans hg) setYat (by intro k_ hk_ hf_; have hne_ : k_ ≠ 5 := (fun e => hn (by subst e; exact hk_)); exact FWY.keep KPY (by rw [Nat.zero_add]; exact hne_) (by rw [Nat.zero_add]; exact fun _ => by decide) hg hf_)⟩)))
                · intro L ys W hC hn hB hF hP K hK
                  show OpE _ _ _ W K
                  exact OpE.known (j := 5) (v := .tuple #[.agg #[.int .i64 C.row, .int .i64 C.col, .int .u8 C.rend, .bool C.kept, .bool C.wrap, .bool C.origin, .int .i64 C.g0, .int .i64 C.g1, .int .i64 C.g2, .int .i64 C.g3, .int .i64 C.gl, .int .i64 C.gr, .int .i64 C.sg, .int .i64 D.pt, .int .i64 D.pl, .int .i64 D.pb, .int .i64 D.pr, .int .i64 D.mt, .int .i64 D.ml, .int .i64 D.mb, .int .i64 D.mr, .int .u32 D.modes, .int .i64 D.level, .bool D.eight, .bool D.stream, .int .i64 D.status, .bool D.below, .int .i64 C.page, .int .i64 D.pages], .int .i64 0]) (hF 5 (hP.1 rfl)) (OpE.val (.tuple #[.agg #[.int .i64 C.row, .int .i64 C.col, .int .u8 C.rend, .bool C.kept, .bool C.wrap, .bool C.origin, .int .i64 C.g0, .int .i64 C.g1, .int .i64 C.g2, .int .i64 C.g3, .int .i64 C.gl, .int .i64 C.gr, .int .i64 C.sg, .int .i64 D.pt, .int .i64 D.pl, .int .i64 D.pb, .int .i64 D.pr, .int .i64 D.mt, .int .i64 D.ml, .int .i64 D.mb, .int .i64 D.mr, .int .u32 D.modes, .int .i64 D.level, .bool D.eight, .bool D.stream, .int .i64 D.status, .bool D.below, .int .i64 C.page, .int .i64 D.pages], .int .i64 0]) W (by kernel_rfl) (hK _ W hB setYat (by intro k_ hk_ hf_; have hne_ : k_ ≠ 6 := (fun e => hn (by subst e; exact hk_)); exact FWY.keep KPY (by rw [Nat.zero_add]; exact hne_) (by rw [Nat.zero_add]; exact fun _ => by decide) (Gr.refl W) hf_)))
                · intro L ys W hC hn hB hF hP K hK
                  show OpE _ _ _ W K
                  exact OpE.known (j := 6) (v := .tuple #[.agg #[.int .i64 C.row, .int .i64 C.col, .int .u8 C.rend, .bool C.kept, .bool C.wrap, .bool C.origin, .int .i64 C.g0, .int .i64 C.g1, .int .i64 C.g2, .int .i64 C.g3, .int .i64 C.gl, .int .i64 C.gr, .int .i64 C.sg, .int .i64 D.pt, .int .i64 D.pl, .int .i64 D.pb, .int .i64 D.pr, .int .i64 D.mt, .int .i64 D.ml, .int .i64 D.mb, .int .i64 D.mr, .int .u32 D.modes, .int .i64 D.level, .bool D.eight, .bool D.stream, .int .i64 D.status, .bool D.below, .int .i64 C.page, .int .i64 D.pages], .int .i64 0]) (hF 6 (hP.1 rfl)) (OpE.val (.agg #[.int .i64 C.row, .int .i64 C.col, .int .u8 C.rend, .bool C.kept, .bool C.wrap, .bool C.origin, .int .i64 C.g0, .int .i64 C.g1, .int .i64 C.g2, .int .i64 C.g3, .int .i64 C.gl, .int .i64 C.gr, .int .i64 C.sg, .int .i64 D.pt, .int .i64 D.pl, .int .i64 D.pb, .int .i64 D.pr, .int .i64 D.mt, .int .i64 D.ml, .int .i64 D.mb, .int .i64 D.mr, .int .u32 D.modes, .int .i64 D.level, .bool D.eight, .bool D.stream, .int .i64 D.status, .bool D.below, .int .i64 C.page, .int .i64 D.pages]) W (by kernel_rfl) (hK _ W hB setYat (by intro k_ hk_ hf_; have hne_ : k_ ≠ 7 := (fun e => hn (by subst e; exact hk_)); exact FWY.keep KPY (by rw [Nat.zero_add]; exact hne_) (by rw [Nat.zero_add]; exact fun _ => by decide) (Gr.refl W) hf_)))
                · intro L ys W hC hn hB hF hP K hK
                  show OpE _ _ _ W K
                  exact OpE.known (j := 6) (v := .tuple #[.agg #[.int .i64 C.row, .int .i64 C.col, .int .u8 C.rend, .bool C.kept, .bool C.wrap, .bool C.origin, .int .i64 C.g0, .int .i64 C.g1, .int .i64 C.g2, .int .i64 C.g3, .int .i64 C.gl, .int .i64 C.gr, .int .i64 C.sg, .int .i64 D.pt, .int .i64 D.pl, .int .i64 D.pb, .int .i64 D.pr, .int .i64 D.mt, .int .i64 D.ml, .int .i64 D.mb, .int .i64 D.mr, .int .u32 D.modes, .int .i64 D.level, .bool D.eight, .bool D.stream, .int .i64 D.status, .bool D.below, .int .i64 C.page, .int .i64 D.pages], .int .i64 0]) (hF 6 (hP.1 rfl)) (OpE.val (.int .i64 0) W (by kernel_rfl) (hK _ W hB setYat (by intro k_ hk_ hf_; have hne_ : k_ ≠ 8 := (fun e => hn (by subst e; exact hk_)); exact FWY.keep KPY (by rw [Nat.zero_add]; exact hne_) (by rw [Nat.zero_add]; exact fun _ => by decide) (Gr.refl W) hf_)))
                · intro L ys W hC hn hB hF hP K hK
                  show OpE _ _ _ W K
                  exact OpE.new (mk := fun g => .pointer (some ⟨g, 0, none⟩)) (C := czA) (T := 45) (by kernel_rfl) (hK _ _ (hB.alloc _) (⟨W.heap.size, _, setYat, hB.size, heap_alloc_new _ _, rfl⟩) (by intro k_ hk_ hf_; have hne_ : k_ ≠ 9 := (fun e => hn (by subst e; exact hk_)); exact FWY.keep KPY (by rw [Nat.zero_add]; exact hne_) (by rw [Nat.zero_add]; exact fun e => absurd (hC 10 (by subst e; exact hk_) 9 (by decide)) hn) ((Gr.refl W).alloc _) hf_))
                · intro L ys W hC hn hB hF hP K hK
                  obtain ⟨g_, C_, hv_, hge_, hb_, hsz_⟩ := hF 9 (hP.2.2.2.2.2.2.2.2.2.2.2.2.1 rfl)
                  show OpE _ _ _ W K
                  obtain ⟨q1_, q2_, q3_⟩ := setCells_blk (t := 45) ((.agg #[.int .i64 C.row, .int .i64 C.col, .int .u8 C.rend, .bool C.kept, .bool C.wrap, .bool C.origin, .int .i64 C.g0, .int .i64 C.g1, .int .i64 C.g2, .int .i64 C.g3, .int .i64 C.gl, .int .i64 C.gr, .int .i64 C.sg, .int .i64 D.pt, .int .i64 D.pl, .int .i64 D.pb, .int .i64 D.pr, .int .i64 D.mt, .int .i64 D.ml, .int .i64 D.mb, .int .i64 D.mr, .int .u32 D.modes, .int .i64 D.level, .bool D.eight, .bool D.stream, .int .i64 D.status, .bool D.below, .int .i64 C.page, .int .i64 D.pages] : Value).cells.toList) 0 W C_ hb_
                  have hset_ : setL C_ 0 ((.agg #[.int .i64 C.row, .int .i64 C.col, .int .u8 C.rend, .bool C.kept, .bool C.wrap, .bool C.origin, .int .i64 C.g0, .int .i64 C.g1, .int .i64 C.g2, .int .i64 C.g3, .int .i64 C.gl, .int .i64 C.gr, .int .i64 C.sg, .int .i64 D.pt, .int .i64 D.pl, .int .i64 D.pb, .int .i64 D.pr, .int .i64 D.mt, .int .i64 D.ml, .int .i64 D.mb, .int .i64 D.mr, .int .u32 D.modes, .int .i64 D.level, .bool D.eight, .bool D.stream, .int .i64 D.status, .bool D.below, .int .i64 C.page, .int .i64 D.pages] : Value).cells.toList) = #[.int .i64 C.row, .int .i64 C.col, .int .u8 C.rend, .bool C.kept, .bool C.wrap, .bool C.origin, .int .i64 C.g0, .int .i64 C.g1, .int .i64 C.g2, .int .i64 C.g3, .int .i64 C.gl, .int .i64 C.gr, .int .i64 C.sg, .int .i64 D.pt, .int .i64 D.pl, .int .i64 D.pb, .int .i64 D.pr, .int .i64 D.mt, .int .i64 D.ml, .int .i64 D.mb, .int .i64 D.mr, .int .u32 D.modes, .int .i64 D.level, .bool D.eight, .bool D.stream, .int .i64 D.status, .bool D.below, .int .i64 C.page, .int .i64 D.pages] := setL_allY (by rw [hsz_]; rfl)
                  rw [hset_] at q1_
                  have hg_ : Gr w_162 (W.setCells g_ 0 ((.agg #[.int .i64 C.row, .int .i64 C.col, .int .u8 C.rend, .bool C.kept, .bool C.wrap, .bool C.origin, .int .i64 C.g0, .int .i64 C.g1, .int .i64 C.g2, .int .i64 C.g3, .int .i64 C.gl, .int .i64 C.gr, .int .i64 C.sg, .int .i64 D.pt, .int .i64 D.pl, .int .i64 D.pb, .int .i64 D.pr, .int .i64 D.mt, .int .i64 D.ml, .int .i64 D.mb, .int .i64 D.mr, .int .u32 D.modes, .int .i64 D.level, .bool D.eight, .bool D.stream, .int .i64 D.status, .bool D.below, .int .i64 C.page, .int .i64 D.pages] : Value).cells.toList)) := hB.upd q2_ (by simpa using hge_)
                  exact OpE.known (j := 9) (v := .pointer (some ⟨g_, 0, none⟩)) hv_ (OpE.known (j := 7) (v := .agg #[.int .i64 C.row, .int .i64 C.col, .int .u8 C.rend, .bool C.kept, .bool C.wrap, .bool C.origin, .int .i64 C.g0, .int .i64 C.g1, .int .i64 C.g2, .int .i64 C.g3, .int .i64 C.gl, .int .i64 C.gr, .int .i64 C.sg, .int .i64 D.pt, .int .i64 D.pl, .int .i64 D.pb, .int .i64 D.pr, .int .i64 D.mt, .int .i64 D.ml, .int .i64 D.mb, .int .i64 D.mr, .int .u32 D.modes, .int .i64 D.level, .bool D.eight, .bool D.stream, .int .i64 D.status, .bool D.below, .int .i64 C.page, .int .i64 D.pages]) (hF 7 (hP.2.2.2.2.2.2.2.2.2.2.1 rfl)) (OpE.store (g := g_) (off := 0) (C := C_) (T := 45) (v := .agg #[.int .i64 C.row, .int .i64 C.col, .int .u8 C.rend, .bool C.kept, .bool C.wrap, .bool C.origin, .int .i64 C.g0, .int .i64 C.g1, .int .i64 C.g2, .int .i64 C.g3, .int .i64 C.gl, .int .i64 C.gr, .int .i64 C.sg, .int .i64 D.pt, .int .i64 D.pl, .int .i64 D.pb, .int .i64 D.pr, .int .i64 D.mt, .int .i64 D.ml, .int .i64 D.mb, .int .i64 D.mr, .int .u32 D.modes, .int .i64 D.level, .bool D.eight, .bool D.stream, .int .i64 D.status, .bool D.below, .int .i64 C.page, .int .i64 D.pages]) rfl (by kernel_rfl) (by kernel_rfl) hb_ (by kernel_rfl) (by kernel_rfl) (by rw [hsz_]; rfl) (hK _ _ hg_ (⟨g_, by rw [setYne (by decide)]; exact hv_, hge_, q1_⟩) (by intro k_ hk_ hf_; have hne_ : k_ ≠ 10 := (fun e => hn (by subst e; exact hk_)); exact FWY.put KPS (by rw [Nat.zero_add]; exact hne_) hv_ hge_ (q1_) hf_))))
              · intro ys_168 w_164 hg_165 hF_167
                obtain ⟨g_169, hv_, hge_, hb_⟩ := hF_167 10 (by decide)
                have hs_170 := hs_163.fresh hg_165 hb_ hge_
                have hs_170 : SH [] w w_164 [pt g_4 (cdA D) 33, pt g_1 (cdA C) 33, pt g_169 #[.int .i64 C.row, .int .i64 C.col, .int .u8 C.rend, .bool C.kept, .bool C.wrap, .bool C.origin, .int .i64 C.g0, .int .i64 C.g1, .int .i64 C.g2, .int .i64 C.g3, .int .i64 C.gl, .int .i64 C.gr, .int .i64 C.sg, .int .i64 D.pt, .int .i64 D.pl, .int .i64 D.pb, .int .i64 D.pr, .int .i64 D.mt, .int .i64 D.ml, .int .i64 D.mb, .int .i64 D.mr, .int .u32 D.modes, .int .i64 D.level, .bool D.eight, .bool D.stream, .int .i64 D.status, .bool D.below, .int .i64 C.page, .int .i64 D.pages] 45] := hs_170
                refine SL.knownY (j := 8) (v := .int .i64 0) (hF_167 8 (by decide)) (SL.knownY (j := 9) (v := .pointer (some ⟨g_169, 0, none⟩)) hv_ (?_))
                clear hF_167 KPY KPS
                refine SL.v (.int .i64 0) ?_
                refine SL.nil ?_
                refine CW.seq ?_
                refine CW.region ?_
                refine SL.load (g := g_4) (off := 0) (v := .agg (cdA D)) rfl rfl rfl (by kernel_rfl) (hs_170.pt_at (i := 0) rfl) (by kernel_rfl) ?_
                refine SL.newH (mk := fun g => .pointer (some ⟨g, 0, none⟩)) (C := czD) (T := 33) hs_170 rfl rfl (by kernel_rfl) (fun g_171 w_172 hs_173 => ?_)
                have hs_173 : SH [] w w_172 [pt g_4 (cdA D) 33, pt g_1 (cdA C) 33, pt g_169 #[.int .i64 C.row, .int .i64 C.col, .int .u8 C.rend, .bool C.kept, .bool C.wrap, .bool C.origin, .int .i64 C.g0, .int .i64 C.g1, .int .i64 C.g2, .int .i64 C.g3, .int .i64 C.gl, .int .i64 C.gr, .int .i64 C.sg, .int .i64 D.pt, .int .i64 D.pl, .int .i64 D.pb, .int .i64 D.pr, .int .i64 D.mt, .int .i64 D.ml, .int .i64 D.mb, .int .i64 D.mr, .int .u32 D.modes, .int .i64 D.level, .bool D.eight, .bool D.stream, .int .i64 D.status, .bool D.below, .int .i64 C.page, .int .i64 D.pages] 45, pt g_171 czD 33] := hs_173
                refine SL.storeH (i := 3) (g := g_171) (off := 0) (v := .agg (cdA D)) (L' := [pt g_4 (cdA D) 33, pt g_1 (cdA C) 33, pt g_169 #[.int .i64 C.row, .int .i64 C.col, .int .u8 C.rend, .bool C.kept, .bool C.wrap, .bool C.origin, .int .i64 C.g0, .int .i64 C.g1, .int .i64 C.g2, .int .i64 C.g3, .int .i64 C.gl, .int .i64 C.gr, .int .i64 C.sg, .int .i64 D.pt, .int .i64 D.pl, .int .i64 D.pb, .int .i64 D.pr, .int .i64 D.mt, .int .i64 D.ml, .int .i64 D.mb, .int .i64 D.mr, .int .u32 D.modes, .int .i64 D.level, .bool D.eight, .bool D.stream, .int .i64 D.status, .bool D.below, .int .i64 C.page, .int .i64 D.pages] 45, pt g_171 (cdA D) 33]) hs_173 rfl rfl rfl (by kernel_rfl) (by kernel_rfl) rfl (by kernel_rfl) (by kernel_rfl) rfl (by kernel_rfl) rfl (fun w_174 hs_175 => ?_)
                refine SL.nil ?_
                refine CW.seq ?_
                obtain ⟨fj_176, hpj_177, hfr_178⟩ := hs_175.frame (Pre := [pt g_171 (cdA D) 33]) (Rest := [pt g_4 (cdA D) 33, pt g_1 (cdA C) 33, pt g_169 #[.int .i64 C.row, .int .i64 C.col, .int .u8 C.rend, .bool C.kept, .bool C.wrap, .bool C.origin, .int .i64 C.g0, .int .i64 C.g1, .int .i64 C.g2, .int .i64 C.g3, .int .i64 C.gl, .int .i64 C.gr, .int .i64 C.sg, .int .i64 D.pt, .int .i64 D.pl, .int .i64 D.pb, .int .i64 D.pr, .int .i64 D.mt, .int .i64 D.ml, .int .i64 D.mb, .int .i64 D.mr, .int .u32 D.modes, .int .i64 D.level, .bool D.eight, .bool D.stream, .int .i64 D.status, .bool D.below, .int .i64 C.page, .int .i64 D.pages] 45]) [3] rfl
                have HGR : GrL [fun v _ => v = .pointer (some ⟨g_1, 0, none⟩), fun v _ => v = .agg #[.int .i64 C.row, .int .i64 C.col, .int .u8 C.rend, .bool C.kept, .bool C.wrap, .bool C.origin, .int .i64 C.g0, .int .i64 C.g1, .int .i64 C.g2, .int .i64 C.g3, .int .i64 C.gl, .int .i64 C.gr, .int .i64 C.sg], fun v _ => v = .pointer (some ⟨g_1, 27, none⟩), fun v _ => v = .int .i64 C.page, fun v _ => v = .pointer (some ⟨g_171, 0, none⟩), fun _ _ => True] := ⟨fun _ _ _ _ h => h, ⟨fun _ _ _ _ h => h, ⟨fun _ _ _ _ h => h, ⟨fun _ _ _ _ h => h, ⟨fun _ _ _ _ h => h, ⟨fun _ _ _ _ h => h, trivial⟩⟩⟩⟩⟩⟩
                have HPU : PureL [fun v _ => v = .pointer (some ⟨g_1, 0, none⟩), fun v _ => v = .agg #[.int .i64 C.row, .int .i64 C.col, .int .u8 C.rend, .bool C.kept, .bool C.wrap, .bool C.origin, .int .i64 C.g0, .int .i64 C.g1, .int .i64 C.g2, .int .i64 C.g3, .int .i64 C.gl, .int .i64 C.gr, .int .i64 C.sg], fun v _ => v = .pointer (some ⟨g_1, 27, none⟩), fun v _ => v = .int .i64 C.page, fun v _ => v = .pointer (some ⟨g_171, 0, none⟩), fun _ _ => True] := ⟨fun _ _ _ h => h, ⟨fun _ _ _ h => h, ⟨fun _ _ _ h => h, ⟨fun _ _ _ h => h, ⟨fun _ _ _ h => h, ⟨fun _ _ _ h => h, trivial⟩⟩⟩⟩⟩⟩
                refine CW.drawG 6 (FW [fun v _ => v = .pointer (some ⟨g_1, 0, none⟩), fun v _ => v = .agg #[.int .i64 C.row, .int .i64 C.col, .int .u8 C.rend, .bool C.kept, .bool C.wrap, .bool C.origin, .int .i64 C.g0, .int .i64 C.g1, .int .i64 C.g2, .int .i64 C.g3, .int .i64 C.gl, .int .i64 C.gr, .int .i64 C.sg], fun v _ => v = .pointer (some ⟨g_1, 27, none⟩), fun v _ => v = .int .i64 C.page, fun v _ => v = .pointer (some ⟨g_171, 0, none⟩), fun _ _ => True]) (BaseS [5] fj_176 w_174 [[pt g_171 (cdA D) 33], [pt g_171 #[.int .i64 C.row, .int .i64 C.col, .int .u8 C.rend, .bool C.kept, .bool C.wrap, .bool C.origin, .int .i64 C.g0, .int .i64 C.g1, .int .i64 C.g2, .int .i64 C.g3, .int .i64 C.gl, .int .i64 C.gr, .int .i64 C.sg, .int .i64 D.pt, .int .i64 D.pl, .int .i64 D.pb, .int .i64 D.pr, .int .i64 D.mt, .int .i64 D.ml, .int .i64 D.mb, .int .i64 D.mr, .int .i64 D.modes, .int .i64 D.level, .bool D.eight, .bool D.stream, .int .i64 D.status, .bool D.below, .int .i64 D.page, .int .i64 D.pages] 33]]) (by kernel_rfl) (by kernel_rfl) (by kernel_rfl) (by kernel_rfl) (by kernel_rfl) (BaseS.init hpj_177) ?_ ?_
                · refine ⟨?_, ⟨?_, ⟨?_, ⟨?_, ⟨?_, ⟨?_, trivial⟩⟩⟩⟩⟩⟩
                  · intro L ys W hC hn hB hF hP K hK
                    show OpE _ _ _ W K
                    exact OpE.val (.pointer (some ⟨g_1, 0, none⟩)) W (by kernel_rfl) (hK _ W (hB.step (by decide) (Gr.refl W)) rfl (fun _ _ h => h))
                  · intro L ys W hC hn hB hF hP K hK
                    show OpE _ _ _ W K
                    exact OpE.known (j := 0) (v := .pointer (some ⟨g_1, 0, none⟩)) (hF 0 (hP.1 rfl)) (OpE.load (g := g_1) (off := 0) (v := .agg #[.int .i64 C.row, .int .i64 C.col, .int .u8 C.rend, .bool C.kept, .bool C.wrap, .bool C.origin, .int .i64 C.g0, .int .i64 C.g1, .int .i64 C.g2, .int .i64 C.g3, .int .i64 C.gl, .int .i64 C.gr, .int .i64 C.sg]) rfl (by kernel_rfl) ((show SH [] w W [pt g_4 (cdA D) 33, pt g_1 (cdA C) 33, pt g_169 #[.int .i64 C.row, .int .i64 C.col, .int .u8 C.rend, .bool C.kept, .bool C.wrap, .bool C.origin, .int .i64 C.g0, .int .i64 C.g1, .int .i64 C.g2, .int .i64 C.g3, .int .i64 C.gl, .int .i64 C.gr, .int .i64 C.sg, .int .i64 D.pt, .int .i64 D.pl, .int .i64 D.pb, .int .i64 D.pr, .int .i64 D.mt, .int .i64 D.ml, .int .i64 D.mb, .int .i64 D.mr, .int .u32 D.modes, .int .i64 D.level, .bool D.eight, .bool D.stream, .int .i64 D.status, .bool D.below, .int .i64 C.page, .int .i64 D.pages] 45] from hfr_178 W [] [] hB.upd rfl (by simp)).pt_at (i := 1) rfl) (by kernel_rfl) (hK _ W (hB.step (by decide) (Gr.refl W)) rfl (fun _ _ h => h)))
                  · intro L ys W hC hn hB hF hP K hK
                    show OpE _ _ _ W K
                    exact OpE.val (.pointer (some ⟨g_1, 27, none⟩)) W (by kernel_rfl) (hK _ W (hB.step (by decide) (Gr.refl W)) rfl (fun _ _ h => h))
                  · intro L ys W hC hn hB hF hP K hK
                    show OpE _ _ _ W K
                    exact OpE.known (j := 2) (v := .pointer (some ⟨g_1, 27, none⟩)) (hF 2 (hP.1 rfl)) (OpE.load (g := g_1) (off := 27) (v := .int .i64 C.page) rfl (by kernel_rfl) ((show SH [] w W [pt g_4 (cdA D) 33, pt g_1 (cdA C) 33, pt g_169 #[.int .i64 C.row, .int .i64 C.col, .int .u8 C.rend, .bool C.kept, .bool C.wrap, .bool C.origin, .int .i64 C.g0, .int .i64 C.g1, .int .i64 C.g2, .int .i64 C.g3, .int .i64 C.gl, .int .i64 C.gr, .int .i64 C.sg, .int .i64 D.pt, .int .i64 D.pl, .int .i64 D.pb, .int .i64 D.pr, .int .i64 D.mt, .int .i64 D.ml, .int .i64 D.mb, .int .i64 D.mr, .int .u32 D.modes, .int .i64 D.level, .bool D.eight, .bool D.stream, .int .i64 D.status, .bool D.below, .int .i64 C.page, .int .i64 D.pages] 45] from hfr_178 W [] [] hB.upd rfl (by simp)).pt_at (i := 1) rfl) (by kernel_rfl) (hK _ W (hB.step (by decide) (Gr.refl W)) rfl (fun _ _ h => h)))
                  · intro L ys W hC hn hB hF hP K hK
                    show OpE _ _ _ W K
                    exact OpE.val (.pointer (some ⟨g_171, 0, none⟩)) W (by kernel_rfl) (hK _ W (hB.step (by decide) (Gr.refl W)) rfl (fun _ _ h => h))
                  · intro L ys W hC hn hB hF hP K hK
                    show OpE _ _ _ W K
                    have hst := hB.at_ (k := 0) (P := [pt g_171 (cdA D) 33]) rfl (by decide) rfl prev_0 (next_at 5 rfl hn)
                    obtain ⟨hq_, hu_⟩ := hst.setCells (i := 0) (g := g_171) (C := (cdA D)) (T := 33) rfl 0 ((.agg #[.int .i64 C.row, .int .i64 C.col, .int .u8 C.rend, .bool C.kept, .bool C.wrap, .bool C.origin, .int .i64 C.g0, .int .i64 C.g1, .int .i64 C.g2, .int .i64 C.g3, .int .i64 C.gl, .int .i64 C.gr, .int .i64 C.sg] : Value).cells.toList)
                    have hset_ : (([pt g_171 (cdA D) 33] : List HA).set 0 (pt g_171 (setL (cdA D) 0 ((.agg #[.int .i64 C.row, .int .i64 C.col, .int .u8 C.rend, .bool C.kept, .bool C.wrap, .bool C.origin, .int .i64 C.g0, .int .i64 C.g1, .int .i64 C.g2, .int .i64 C.g3, .int .i64 C.gl, .int .i64 C.gr, .int .i64 C.sg] : Value).cells.toList)) 33)) = [pt g_171 #[.int .i64 C.row, .int .i64 C.col, .int .u8 C.rend, .bool C.kept, .bool C.wrap, .bool C.origin, .int .i64 C.g0, .int .i64 C.g1, .int .i64 C.g2, .int .i64 C.g3, .int .i64 C.gl, .int .i64 C.gr, .int .i64 C.sg, .int .i64 D.pt, .int .i64 D.pl, .int .i64 D.pb, .int .i64 D.pr, .int .i64 D.mt, .int .i64 D.ml, .int .i64 D.mb, .int .i64 D.mr, .int .i64 D.modes, .int .i64 D.level, .bool D.eight, .bool D.stream, .int .i64 D.status, .bool D.below, .int .i64 D.page, .int .i64 D.pages] 33] := by kernel_rfl
                    rw [hset_] at hq_
                    exact OpE.known (j := 4) (v := .pointer (some ⟨g_171, 0, none⟩)) (hF 4 (hP.1 rfl)) (OpE.known (j := 1) (v := .agg #[.int .i64 C.row, .int .i64 C.col, .int .u8 C.rend, .bool C.kept, .bool C.wrap, .bool C.origin, .int .i64 C.g0, .int .i64 C.g1, .int .i64 C.g2, .int .i64 C.g3, .int .i64 C.gl, .int .i64 C.gr, .int .i64 C.sg]) (hF 1 (hP.2.2.2.1 rfl)) (OpE.store (g := g_171) (off := 0) (C := (cdA D)) (T := 33) (v := .agg #[.int .i64 C.row, .int .i64 C.col, .int .u8 C.rend, .bool C.kept, .bool C.wrap, .bool C.origin, .int .i64 C.g0, .int .i64 C.g1, .int .i64 C.g2, .int .i64 C.g3, .int .i64 C.gl, .int .i64 C.gr, .int .i64 C.sg]) rfl (by kernel_rfl) (by kernel_rfl) (hst.pt_at (i := 0) rfl) (by kernel_rfl) (by kernel_rfl) (by kernel_rfl) (hK _ _ (hB.done (k := 0) (P := [pt g_171 (cdA D) 33]) (P' := [pt g_171 #[.int .i64 C.row, .int .i64 C.col, .int .u8 C.rend, .bool C.kept, .bool C.wrap, .bool C.origin, .int .i64 C.g0, .int .i64 C.g1, .int .i64 C.g2, .int .i64 C.g3, .int .i64 C.gl, .int .i64 C.gr, .int .i64 C.sg, .int .i64 D.pt, .int .i64 D.pl, .int .i64 D.pb, .int .i64 D.pr, .int .i64 D.mt, .int .i64 D.ml, .int .i64 D.mb, .int .i64 D.mr, .int .i64 D.modes, .int .i64 D.level, .bool D.eight, .bool D.stream, .int .i64 D.status, .bool D.below, .int .i64 D.page, .int .i64 D.pages] 33]) rfl (by decide) rfl rfl rfl prev_0 hn hu_ hq_) trivial (fun _ _ h => FW.pureL HPU h))))
                · intro ys_183 w_179 hb_180 hF_182
                  have hst_ := hb_180.at_ (k := 1) (P := [pt g_171 #[.int .i64 C.row, .int .i64 C.col, .int .u8 C.rend, .bool C.kept, .bool C.wrap, .bool C.origin, .int .i64 C.g0, .int .i64 C.g1, .int .i64 C.g2, .int .i64 C.g3, .int .i64 C.gl, .int .i64 C.gr, .int .i64 C.sg, .int .i64 D.pt, .int .i64 D.pl, .int .i64 D.pb, .int .i64 D.pr, .int .i64 D.mt, .int .i64 D.ml, .int .i64 D.mb, .int .i64 D.mr, .int .i64 D.modes, .int .i64 D.level, .bool D.eight, .bool D.stream, .int .i64 D.status, .bool D.below, .int .i64 D.page, .int .i64 D.pages] 33]) rfl (by decide) rfl (prev_at (k := 0) 5 rfl (by decide)) (next_end rfl)
                  have hs_181 : SH [] w w_179 [pt g_171 #[.int .i64 C.row, .int .i64 C.col, .int .u8 C.rend, .bool C.kept, .bool C.wrap, .bool C.origin, .int .i64 C.g0, .int .i64 C.g1, .int .i64 C.g2, .int .i64 C.g3, .int .i64 C.gl, .int .i64 C.gr, .int .i64 C.sg, .int .i64 D.pt, .int .i64 D.pl, .int .i64 D.pb, .int .i64 D.pr, .int .i64 D.mt, .int .i64 D.ml, .int .i64 D.mb, .int .i64 D.mr, .int .i64 D.modes, .int .i64 D.level, .bool D.eight, .bool D.stream, .int .i64 D.status, .bool D.below, .int .i64 D.page, .int .i64 D.pages] 33, pt g_4 (cdA D) 33, pt g_1 (cdA C) 33, pt g_169 #[.int .i64 C.row, .int .i64 C.col, .int .u8 C.rend, .bool C.kept, .bool C.wrap, .bool C.origin, .int .i64 C.g0, .int .i64 C.g1, .int .i64 C.g2, .int .i64 C.g3, .int .i64 C.gl, .int .i64 C.gr, .int .i64 C.sg, .int .i64 D.pt, .int .i64 D.pl, .int .i64 D.pb, .int .i64 D.pr, .int .i64 D.mt, .int .i64 D.ml, .int .i64 D.mb, .int .i64 D.mr, .int .u32 D.modes, .int .i64 D.level, .bool D.eight, .bool D.stream, .int .i64 D.status, .bool D.below, .int .i64 C.page, .int .i64 D.pages] 45] := hfr_178 w_179 _ fj_176 hb_180.upd hst_ (fun g hg => .inl hg)
                  refine SL.knownY (j := 3) (v := .int .i64 C.page) (show ys_183 3 = .int .i64 C.page from hF_182 3 (by decide)) (?_)
                  clear hF_182 HGR HPU hst_ hb_180 hfr_178 hpj_177
                  refine SL.v (.pointer (some ⟨g_171, 27, none⟩)) ?_
                  refine SL.storeH (i := 0) (g := g_171) (off := 27) (v := .int .i64 C.page) (L' := [pt g_171 #[.int .i64 C.row, .int .i64 C.col, .int .u8 C.rend, .bool C.kept, .bool C.wrap, .bool C.origin, .int .i64 C.g0, .int .i64 C.g1, .int .i64 C.g2, .int .i64 C.g3, .int .i64 C.gl, .int .i64 C.gr, .int .i64 C.sg, .int .i64 D.pt, .int .i64 D.pl, .int .i64 D.pb, .int .i64 D.pr, .int .i64 D.mt, .int .i64 D.ml, .int .i64 D.mb, .int .i64 D.mr, .int .i64 D.modes, .int .i64 D.level, .bool D.eight, .bool D.stream, .int .i64 D.status, .bool D.below, .int .i64 C.page, .int .i64 D.pages] 33, pt g_4 (cdA D) 33, pt g_1 (cdA C) 33, pt g_169 #[.int .i64 C.row, .int .i64 C.col, .int .u8 C.rend, .bool C.kept, .bool C.wrap, .bool C.origin, .int .i64 C.g0, .int .i64 C.g1, .int .i64 C.g2, .int .i64 C.g3, .int .i64 C.gl, .int .i64 C.gr, .int .i64 C.sg, .int .i64 D.pt, .int .i64 D.pl, .int .i64 D.pb, .int .i64 D.pr, .int .i64 D.mt, .int .i64 D.ml, .int .i64 D.mb, .int .i64 D.mr, .int .u32 D.modes, .int .i64 D.level, .bool D.eight, .bool D.stream, .int .i64 D.status, .bool D.below, .int .i64 C.page, .int .i64 D.pages] 45]) hs_181 rfl rfl rfl (by kernel_rfl) (by kernel_rfl) rfl (by kernel_rfl) (by kernel_rfl) rfl (by kernel_rfl) rfl (fun w_184 hs_185 => ?_)
                  refine SL.nil ?_
                  refine CW.seq ?_
                  refine CW.seq ?_
                  have HGR : GrL [fun v _ => v = .int .i64 0, fun v _ => v = .bool false, fun v _ => v = .bool false, fun v _ => v = .agg #[.int .i64 C.row, .int .i64 C.col, .int .u8 C.rend, .bool C.kept, .bool C.wrap, .bool C.origin, .int .i64 C.g0, .int .i64 C.g1, .int .i64 C.g2, .int .i64 C.g3, .int .i64 C.gl, .int .i64 C.gr, .int .i64 C.sg, .int .i64 D.pt, .int .i64 D.pl, .int .i64 D.pb, .int .i64 D.pr, .int .i64 D.mt, .int .i64 D.ml, .int .i64 D.mb, .int .i64 D.mr, .int .u32 D.modes, .int .i64 D.level, .bool D.eight, .bool D.stream, .int .i64 D.status, .bool D.below, .int .i64 C.page, .int .i64 D.pages], fun v _ => v = .agg #[.int .i64 C.row, .int .i64 C.col, .int .u8 C.rend, .bool C.kept, .bool C.wrap, .bool C.origin, .int .i64 C.g0, .int .i64 C.g1, .int .i64 C.g2, .int .i64 C.g3, .int .i64 C.gl, .int .i64 C.gr, .int .i64 C.sg, .int .i64 D.pt, .int .i64 D.pl, .int .i64 D.pb, .int .i64 D.pr, .int .i64 D.mt, .int .i64 D.ml, .int .i64 D.mb, .int .i64 D.mr, .int .i64 D.modes, .int .i64 D.level, .bool D.eight, .bool D.stream, .int .i64 D.status, .bool D.below, .int .i64 C.page, .int .i64 D.pages], fun v _ => v = .agg #[.int .i64 C.row, .int .i64 C.col, .int .u8 C.rend, .bool C.kept, .bool C.wrap, .bool C.origin, .int .i64 C.g0, .int .i64 C.g1, .int .i64 C.g2, .int .i64 C.g3, .int .i64 C.gl, .int .i64 C.gr, .int .i64 C.sg, .int .i64 D.pt, .int .i64 D.pl, .int .i64 D.pb, .int .i64 D.pr, .int .i64 D.mt, .int .i64 D.ml, .int .i64 D.mb, .int .i64 D.mr, .int .i64 D.modes, .int .i64 D.level, .bool D.eight, .bool D.stream, .int .i64 D.status, .bool D.below, .int .i64 C.page, .int .i64 D.pages]] := ⟨fun _ _ _ _ h => h, ⟨fun _ _ _ _ h => h, ⟨fun _ _ _ _ h => h, ⟨fun _ _ _ _ h => h, ⟨fun _ _ _ _ h => h, ⟨fun _ _ _ _ h => h, trivial⟩⟩⟩⟩⟩⟩
                  refine CW.draw 6 (FW [fun v _ => v = .int .i64 0, fun v _ => v = .bool false, fun v _ => v = .bool false, fun v _ => v = .agg #[.int .i64 C.row, .int .i64 C.col, .int .u8 C.rend, .bool C.kept, .bool C.wrap, .bool C.origin, .int .i64 C.g0, .int .i64 C.g1, .int .i64 C.g2, .int .i64 C.g3, .int .i64 C.gl, .int .i64 C.gr, .int .i64 C.sg, .int .i64 D.pt, .int .i64 D.pl, .int .i64 D.pb, .int .i64 D.pr, .int .i64 D.mt, .int .i64 D.ml, .int .i64 D.mb, .int .i64 D.mr, .int .u32 D.modes, .int .i64 D.level, .bool D.eight, .bool D.stream, .int .i64 D.status, .bool D.below, .int .i64 C.page, .int .i64 D.pages], fun v _ => v = .agg #[.int .i64 C.row, .int .i64 C.col, .int .u8 C.rend, .bool C.kept, .bool C.wrap, .bool C.origin, .int .i64 C.g0, .int .i64 C.g1, .int .i64 C.g2, .int .i64 C.g3, .int .i64 C.gl, .int .i64 C.gr, .int .i64 C.sg, .int .i64 D.pt, .int .i64 D.pl, .int .i64 D.pb, .int .i64 D.pr, .int .i64 D.mt, .int .i64 D.ml, .int .i64 D.mb, .int .i64 D.mr, .int .i64 D.modes, .int .i64 D.level, .bool D.eight, .bool D.stream, .int .i64 D.status, .bool D.below, .int .i64 C.page, .int .i64 D.pages], fun v _ => v = .agg #[.int .i64 C.row, .int .i64 C.col, .int .u8 C.rend, .bool C.kept, .bool C.wrap, .bool C.origin, .int .i64 C.g0, .int .i64 C.g1, .int .i64 C.g2, .int .i64 C.g3, .int .i64 C.gl, .int .i64 C.gr, .int .i64 C.sg, .int .i64 D.pt, .int .i64 D.pl, .int .i64 D.pb, .int .i64 D.pr, .int .i64 D.mt, .int .i64 D.ml, .int .i64 D.mb, .int .i64 D.mr, .int .i64 D.modes, .int .i64 D.level, .bool D.eight, .bool D.stream, .int .i64 D.status, .bool D.below, .int .i64 C.page, .int .i64 D.pages]]) (fun W => Gr w_184 W) (by kernel_rfl) (by kernel_rfl) (by kernel_rfl) (by kernel_rfl) (by kernel_rfl) (Gr.refl _).drew ?_ ?_
                  · refine ⟨?_, ⟨?_, ⟨?_, ⟨?_, ⟨?_, ⟨?_, trivial⟩⟩⟩⟩⟩⟩
                    · intro L ys W hB hF hP K hK
                      show OpE _ _ _ W K
                      exact OpE.val (.int .i64 0) W (by kernel_rfl) (hK _ W hB rfl (fun _ _ h => h))
                    · intro L ys W hB hF hP K hK
                      show OpE _ _ _ W K
                      exact OpE.known (j := 0) (v := .int .i64 0) (hF 0 (hP.1 rfl)) (OpE.val (.bool false) W (by kernel_rfl) (hK _ W hB rfl (fun _ _ h => h)))
                    · intro L ys W hB hF hP K hK
                      show OpE _ _ _ W K
                      exact OpE.known (j := 1) (v := .bool false) (hF 1 (hP.1 rfl)) (OpE.val (.bool false) W (by kernel_rfl) (hK _ W hB rfl (fun _ _ h => h)))
                    · intro L ys W hB hF hP K hK
                      refine ⟨88, false, rfl, (show fillE _ 0 ys _ 88 = _ from (hF 2 (hP.1 rfl))), .inl ⟨rfl, ?_⟩⟩
                      exact OpE.load (g := g_169) (off := 0) (v := .agg #[.int .i64 C.row, .int .i64 C.col, .int .u8 C.rend, .bool C.kept, .bool C.wrap, .bool C.origin, .int .i64 C.g0, .int .i64 C.g1, .int .i64 C.g2, .int .i64 C.g3, .int .i64 C.gl, .int .i64 C.gr, .int .i64 C.sg, .int .i64 D.pt, .int .i64 D.pl, .int .i64 D.pb, .int .i64 D.pr, .int .i64 D.mt, .int .i64 D.ml, .int .i64 D.mb, .int .i64 D.mr, .int .u32 D.modes, .int .i64 D.level, .bool D.eight, .bool D.stream, .int .i64 D.status, .bool D.below, .int .i64 C.page, .int .i64 D.pages]) rfl (by kernel_rfl) ((hs_185.grow hB).pt_at (i := 3) rfl) (by kernel_rfl) (hK _ W hB rfl (fun _ _ h => h))
                    · intro L ys W hB hF hP K hK
                      refine ⟨88, false, rfl, (show fillE _ 0 ys _ 88 = _ from (hF 2 (hP.2.2.1 rfl))), .inl ⟨rfl, ?_⟩⟩
                      exact OpE.known (j := 3) (v := .agg #[.int .i64 C.row, .int .i64 C.col, .int .u8 C.rend, .bool C.kept, .bool C.wrap, .bool C.origin, .int .i64 C.g0, .int .i64 C.g1, .int .i64 C.g2, .int .i64 C.g3, .int .i64 C.gl, .int .i64 C.gr, .int .i64 C.sg, .int .i64 D.pt, .int .i64 D.pl, .int .i64 D.pb, .int .i64 D.pr, .int .i64 D.mt, .int .i64 D.ml, .int .i64 D.mb, .int .i64 D.mr, .int .u32 D.modes, .int .i64 D.level, .bool D.eight, .bool D.stream, .int .i64 D.status, .bool D.below, .int .i64 C.page, .int .i64 D.pages]) (hF 3 (hP.1 rfl)) (OpE.call 12 #[.agg #[.int .i64 C.row, .int .i64 C.col, .int .u8 C.rend, .bool C.kept, .bool C.wrap, .bool C.origin, .int .i64 C.g0, .int .i64 C.g1, .int .i64 C.g2, .int .i64 C.g3, .int .i64 C.gl, .int .i64 C.gr, .int .i64 C.sg, .int .i64 D.pt, .int .i64 D.pl, .int .i64 D.pb, .int .i64 D.pr, .int .i64 D.mt, .int .i64 D.ml, .int .i64 D.mb, .int .i64 D.mr, .int .u32 D.modes, .int .i64 D.level, .bool D.eight, .bool D.stream, .int .i64 D.status, .bool D.below, .int .i64 C.page, .int .i64 D.pages]] W _ (by kernel_rfl) (told19 (wantC C D) W hwok.modes) (fun x w' hx => by obtain ⟨rfl, hg⟩ := hx; exact ⟨_, rfl, hK _ w' (hB.trans hg) rfl (fun _ _ h => FW.gr HGR hg h)⟩))
                    · intro L ys W hB hF hP K hK
                      refine ⟨88, false, rfl, (show fillE _ 0 ys _ 88 = _ from (hF 2 (hP.1 rfl))), .inl ⟨rfl, ?_⟩⟩
                      exact OpE.load (g := g_171) (off := 0) (v := .agg #[.int .i64 C.row, .int .i64 C.col, .int .u8 C.rend, .bool C.kept, .bool C.wrap, .bool C.origin, .int .i64 C.g0, .int .i64 C.g1, .int .i64 C.g2, .int .i64 C.g3, .int .i64 C.gl, .int .i64 C.gr, .int .i64 C.sg, .int .i64 D.pt, .int .i64 D.pl, .int .i64 D.pb, .int .i64 D.pr, .int .i64 D.mt, .int .i64 D.ml, .int .i64 D.mb, .int .i64 D.mr, .int .i64 D.modes, .int .i64 D.level, .bool D.eight, .bool D.stream, .int .i64 D.status, .bool D.below, .int .i64 C.page, .int .i64 D.pages]) rfl (by kernel_rfl) ((hs_185.grow hB).pt_at (i := 0) rfl) (by kernel_rfl) (hK _ W hB rfl (fun _ _ h => h))
                  · intro ys_189 w_186 hs_187 hF_188
                    have hg_190 := hs_187
                    have hs_187 : SH [] w w_186 [pt g_171 #[.int .i64 C.row, .int .i64 C.col, .int .u8 C.rend, .bool C.kept, .bool C.wrap, .bool C.origin, .int .i64 C.g0, .int .i64 C.g1, .int .i64 C.g2, .int .i64 C.g3, .int .i64 C.gl, .int .i64 C.gr, .int .i64 C.sg, .int .i64 D.pt, .int .i64 D.pl, .int .i64 D.pb, .int .i64 D.pr, .int .i64 D.mt, .int .i64 D.ml, .int .i64 D.mb, .int .i64 D.mr, .int .i64 D.modes, .int .i64 D.level, .bool D.eight, .bool D.stream, .int .i64 D.status, .bool D.below, .int .i64 C.page, .int .i64 D.pages] 33, pt g_4 (cdA D) 33, pt g_1 (cdA C) 33, pt g_169 #[.int .i64 C.row, .int .i64 C.col, .int .u8 C.rend, .bool C.kept, .bool C.wrap, .bool C.origin, .int .i64 C.g0, .int .i64 C.g1, .int .i64 C.g2, .int .i64 C.g3, .int .i64 C.gl, .int .i64 C.gr, .int .i64 C.sg, .int .i64 D.pt, .int .i64 D.pl, .int .i64 D.pb, .int .i64 D.pr, .int .i64 D.mt, .int .i64 D.ml, .int .i64 D.mb, .int .i64 D.mr, .int .u32 D.modes, .int .i64 D.level, .bool D.eight, .bool D.stream, .int .i64 D.status, .bool D.below, .int .i64 C.page, .int .i64 D.pages] 45] := hs_185.grow hg_190
                    refine SL.knownY (j := 2) (v := .bool false) (show ys_189 2 = .bool false from hF_188 2 (by decide)) (SL.knownY (j := 4) (v := .agg #[.int .i64 C.row, .int .i64 C.col, .int .u8 C.rend, .bool C.kept, .bool C.wrap, .bool C.origin, .int .i64 C.g0, .int .i64 C.g1, .int .i64 C.g2, .int .i64 C.g3, .int .i64 C.gl, .int .i64 C.gr, .int .i64 C.sg, .int .i64 D.pt, .int .i64 D.pl, .int .i64 D.pb, .int .i64 D.pr, .int .i64 D.mt, .int .i64 D.ml, .int .i64 D.mb, .int .i64 D.mr, .int .i64 D.modes, .int .i64 D.level, .bool D.eight, .bool D.stream, .int .i64 D.status, .bool D.below, .int .i64 C.page, .int .i64 D.pages]) (show ys_189 4 = .agg #[.int .i64 C.row, .int .i64 C.col, .int .u8 C.rend, .bool C.kept, .bool C.wrap, .bool C.origin, .int .i64 C.g0, .int .i64 C.g1, .int .i64 C.g2, .int .i64 C.g3, .int .i64 C.gl, .int .i64 C.gr, .int .i64 C.sg, .int .i64 D.pt, .int .i64 D.pl, .int .i64 D.pb, .int .i64 D.pr, .int .i64 D.mt, .int .i64 D.ml, .int .i64 D.mb, .int .i64 D.mr, .int .i64 D.modes, .int .i64 D.level, .bool D.eight, .bool D.stream, .int .i64 D.status, .bool D.below, .int .i64 C.page, .int .i64 D.pages] from hF_188 4 (by decide)) (SL.knownY (j := 5) (v := .agg #[.int .i64 C.row, .int .i64 C.col, .int .u8 C.rend, .bool C.kept, .bool C.wrap, .bool C.origin, .int .i64 C.g0, .int .i64 C.g1, .int .i64 C.g2, .int .i64 C.g3, .int .i64 C.gl, .int .i64 C.gr, .int .i64 C.sg, .int .i64 D.pt, .int .i64 D.pl, .int .i64 D.pb, .int .i64 D.pr, .int .i64 D.mt, .int .i64 D.ml, .int .i64 D.mb, .int .i64 D.mr, .int .i64 D.modes, .int .i64 D.level, .bool D.eight, .bool D.stream, .int .i64 D.status, .bool D.below, .int .i64 C.page, .int .i64 D.pages]) (show ys_189 5 = .agg #[.int .i64 C.row, .int .i64 C.col, .int .u8 C.rend, .bool C.kept, .bool C.wrap, .bool C.origin, .int .i64 C.g0, .int .i64 C.g1, .int .i64 C.g2, .int .i64 C.g3, .int .i64 C.gl, .int .i64 C.gr, .int .i64 C.sg, .int .i64 D.pt, .int .i64 D.pl, .int .i64 D.pb, .int .i64 D.pr, .int .i64 D.mt, .int .i64 D.ml, .int .i64 D.mb, .int .i64 D.mr, .int .i64 D.modes, .int .i64 D.level, .bool D.eight, .bool D.stream, .int .i64 D.status, .bool D.below, .int .i64 C.page, .int .i64 D.pages] from hF_188 5 (by decide)) (?_)))
                    clear hF_188 HGR
                    refine SL.go ?_
                    refine SL.val (v := .bool false) (w' := w_186) rfl rfl (run_neq_op (xs := #[.int .i64 C.row, .int .i64 C.col, .int .u8 C.rend, .bool C.kept, .bool C.wrap, .bool C.origin, .int .i64 C.g0, .int .i64 C.g1, .int .i64 C.g2, .int .i64 C.g3, .int .i64 C.gl, .int .i64 C.gr, .int .i64 C.sg, .int .i64 D.pt, .int .i64 D.pl, .int .i64 D.pb, .int .i64 D.pr, .int .i64 D.mt, .int .i64 D.ml, .int .i64 D.mb, .int .i64 D.mr, .int .i64 D.modes, .int .i64 D.level, .bool D.eight, .bool D.stream, .int .i64 D.status, .bool D.below, .int .i64 C.page, .int .i64 D.pages]) (ys := #[.int .i64 C.row, .int .i64 C.col, .int .u8 C.rend, .bool C.kept, .bool C.wrap, .bool C.origin, .int .i64 C.g0, .int .i64 C.g1, .int .i64 C.g2, .int .i64 C.g3, .int .i64 C.gl, .int .i64 C.gr, .int .i64 C.sg, .int .i64 D.pt, .int .i64 D.pl, .int .i64 D.pb, .int .i64 D.pr, .int .i64 D.mt, .int .i64 D.ml, .int .i64 D.mb, .int .i64 D.mr, .int .i64 D.modes, .int .i64 D.level, .bool D.eight, .bool D.stream, .int .i64 D.status, .bool D.below, .int .i64 C.page, .int .i64 D.pages]) (b := true) rfl (by kernel_rfl) (by kernel_rfl) (by kernel_rfl) (run_eql_flat (x := .agg #[.int .i64 C.row, .int .i64 C.col, .int .u8 C.rend, .bool C.kept, .bool C.wrap, .bool C.origin, .int .i64 C.g0, .int .i64 C.g1, .int .i64 C.g2, .int .i64 C.g3, .int .i64 C.gl, .int .i64 C.gr, .int .i64 C.sg, .int .i64 D.pt, .int .i64 D.pl, .int .i64 D.pb, .int .i64 D.pr, .int .i64 D.mt, .int .i64 D.ml, .int .i64 D.mb, .int .i64 D.mr, .int .i64 D.modes, .int .i64 D.level, .bool D.eight, .bool D.stream, .int .i64 D.status, .bool D.below, .int .i64 C.page, .int .i64 D.pages]) (y := .agg #[.int .i64 C.row, .int .i64 C.col, .int .u8 C.rend, .bool C.kept, .bool C.wrap, .bool C.origin, .int .i64 C.g0, .int .i64 C.g1, .int .i64 C.g2, .int .i64 C.g3, .int .i64 C.gl, .int .i64 C.gr, .int .i64 C.sg, .int .i64 D.pt, .int .i64 D.pl, .int .i64 D.pb, .int .i64 D.pr, .int .i64 D.mt, .int .i64 D.ml, .int .i64 D.mb, .int .i64 D.mr, .int .i64 D.modes, .int .i64 D.level, .bool D.eight, .bool D.stream, .int .i64 D.status, .bool D.below, .int .i64 C.page, .int .i64 D.pages]) (b := true) (m := 6) (lx := [.int .i64 C.row, .int .i64 C.col, .int .u8 C.rend, .bool C.kept, .bool C.wrap, .bool C.origin, .int .i64 C.g0, .int .i64 C.g1, .int .i64 C.g2, .int .i64 C.g3, .int .i64 C.gl, .int .i64 C.gr, .int .i64 C.sg, .int .i64 D.pt, .int .i64 D.pl, .int .i64 D.pb, .int .i64 D.pr, .int .i64 D.mt, .int .i64 D.ml, .int .i64 D.mb, .int .i64 D.mr, .int .i64 D.modes, .int .i64 D.level, .bool D.eight, .bool D.stream, .int .i64 D.status, .bool D.below, .int .i64 C.page, .int .i64 D.pages]) (ly := [.int .i64 C.row, .int .i64 C.col, .int .u8 C.rend, .bool C.kept, .bool C.wrap, .bool C.origin, .int .i64 C.g0, .int .i64 C.g1, .int .i64 C.g2, .int .i64 C.g3, .int .i64 C.gl, .int .i64 C.gr, .int .i64 C.sg, .int .i64 D.pt, .int .i64 D.pl, .int .i64 D.pb, .int .i64 D.pr, .int .i64 D.mt, .int .i64 D.ml, .int .i64 D.mb, .int .i64 D.mr, .int .i64 D.modes, .int .i64 D.level, .bool D.eight, .bool D.stream, .int .i64 D.status, .bool D.below, .int .i64 C.page, .int .i64 D.pages]) (by kernel_rfl) (by kernel_rfl) (by kernel_rfl) (by kernel_rfl) (by kernel_rfl) (by kernel_rfl) (Cor.Ok.lits hwok) (Cor.Ok.lits hwok) ⟨fun _ => rfl, fun _ => rfl⟩)) ?_
                    refine SL.v (.bool false) ?_
                    refine SL.nil ?_
                    refine CW.cond_false (by kernel_rfl) ?_
                    refine CW.skip ?_
                    refine CW.seq ?_
                    have KPY : KeepY 10 9 0 [fun ys _ => ys 0 = .agg (cdA D), fun ys _ => ys 1 = .agg (cvA D), fun ys _ => ys 2 = .agg (cdA C), fun ys _ => ys 3 = .agg (cvA C), fun ys _ => ys 4 = .string (strOf (fmtGo C.clean.nums)), fun ys _ => ys 5 = .tuple #[.agg #[.int .i64 D.row, .int .i64 D.col, .int .u8 D.rend, .bool D.kept, .bool D.wrap, .bool C.origin, .int .i64 D.g0, .int .i64 D.g1, .int .i64 D.g2, .int .i64 D.g3, .int .i64 D.gl, .int .i64 D.gr, .int .i64 D.sg, .int .i64 C.pt, .int .i64 C.pl, .int .i64 C.pb, .int .i64 C.pr, .int .i64 C.mt, .int .i64 C.ml, .int .i64 C.mb, .int .i64 C.mr, .int .u32 C.modes, .int .i64 C.level, .bool C.eight, .bool C.stream, .int .i64 C.status, .bool C.below, .int .i64 D.page, .int .i64 C.pages], .int .i64 0], fun ys _ => ys 6 = .tuple #[.agg #[.int .i64 D.row, .int .i64 D.col, .int .u8 D.rend, .bool D.kept, .bool D.wrap, .bool C.origin, .int .i64 D.g0, .int .i64 D.g1, .int .i64 D.g2, .int .i64 D.g3, .int .i64 D.gl, .int .i64 D.gr, .int .i64 D.sg, .int .i64 C.pt, .int .i64 C.pl, .int .i64 C.pb, .int .i64 C.pr, .int .i64 C.mt, .int .i64 C.ml, .int .i64 C.mb, .int .i64 C.mr, .int .u32 C.modes, .int .i64 C.level, .bool C.eight, .bool C.stream, .int .i64 C.status, .bool C.below, .int .i64 D.page, .int .i64 C.pages], .int .i64 0], fun ys _ => ys 7 = .agg #[.int .i64 D.row, .int .i64 D.col, .int .u8 D.rend, .bool D.kept, .bool D.wrap, .bool C.origin, .int .i64 D.g0, .int .i64 D.g1, .int .i64 D.g2, .int .i64 D.g3, .int .i64 D.gl, .int .i64 D.gr, .int .i64 D.sg, .int .i64 C.pt, .int .i64 C.pl, .int .i64 C.pb, .int .i64 C.pr, .int .i64 C.mt, .int .i64 C.ml, .int .i64 C.mb, .int .i64 C.mr, .int .u32 C.modes, .int .i64 C.level, .bool C.eight, .bool C.stream, .int .i64 C.status, .bool C.below, .int .i64 D.page, .int .i64 C.pages], fun ys _ => ys 8 = .int .i64 0, OwnB w_186 9 29 45, PutB w_186 9 #[.int .i64 D.row, .int .i64 D.col, .int .u8 D.rend, .bool D.kept, .bool D.wrap, .bool C.origin, .int .i64 D.g0, .int .i64 D.g1, .int .i64 D.g2, .int .i64 D.g3, .int .i64 D.gl, .int .i64 D.gr, .int .i64 D.sg, .int .i64 C.pt, .int .i64 C.pl, .int .i64 C.pb, .int .i64 C.pr, .int .i64 C.mt, .int .i64 C.ml, .int .i64 C.mb, .int .i64 C.mr, .int .u32 C.modes, .int .i64 C.level, .bool C.eight, .bool C.stream, .int .i64 C.status, .bool C.below, .int .i64 D.page, .int .i64 C.pages] 45] := ⟨fun i_ hne hal ys v W W1 hg hf => (setYne hne).trans hf, ⟨fun i_ hne hal ys v W W1 hg hf => (setYne hne).trans hf, ⟨fun i_ hne hal ys v W W1 hg hf => (setYne hne).trans hf, ⟨fun i_ hne hal ys v W W1 hg hf => (setYne hne).trans hf, ⟨fun i_ hne hal ys v W W1 hg hf => (setYne hne).trans hf, ⟨fun i_ hne hal ys v W W1 hg hf => (setYne hne).trans hf, ⟨fun i_ hne hal ys v W W1 hg hf => (setYne hne).trans hf, ⟨fun i_ hne hal ys v W W1 hg hf => (setYne hne).trans hf, ⟨fun i_ hne hal ys v W W1 hg hf => (setYne hne).trans hf, ⟨fun i_ hne hal ys v W W1 hg hf => OwnB.keep hf hne hg, ⟨fun i_ hne hal ys v W W1 hg hf => PutB.keep hf (hal rfl).symm hg, trivial⟩⟩⟩⟩⟩⟩⟩⟩⟩⟩⟩
                    have KPS : PutY 10 9 w_186 #[.int .i64 D.row, .int .i64 D.col, .int .u8 D.rend, .bool D.kept, .bool D.wrap, .bool C.origin, .int .i64 D.g0, .int .i64 D.g1, .int .i64 D.g2, .int .i64 D.g3, .int .i64 D.gl, .int .i64 D.gr, .int .i64 D.sg, .int .i64 C.pt, .int .i64 C.pl, .int .i64 C.pb, .int .i64 C.pr, .int .i64 C.mt, .int .i64 C.ml, .int .i64 C.mb, .int .i64 C.mr, .int .u32 C.modes, .int .i64 C.level, .bool C.eight, .bool C.stream, .int .i64 C.status, .bool C.below, .int .i64 D.page, .int .i64 C.pages] 45 0 [fun ys _ => ys 0 = .agg (cdA D), fun ys _ => ys 1 = .agg (cvA D), fun ys _ => ys 2 = .agg (cdA C), fun ys _ => ys 3 = .agg (cvA C), fun ys _ => ys 4 = .string (strOf (fmtGo C.clean.nums)), fun ys _ => ys 5 = .tuple #[.agg #[.int .i64 D.row, .int .i64 D.col, .int .u8 D.rend, .bool D.kept, .bool D.wrap, .bool C.origin, .int .i64 D.g0, .int .i64 D.g1, .int .i64 D.g2, .int .i64 D.g3, .int .i64 D.gl, .int .i64 D.gr, .int .i64 D.sg, .int .i64 C.pt, .int .i64 C.pl, .int .i64 C.pb, .int .i64 C.pr, .int .i64 C.mt, .int .i64 C.ml, .int .i64 C.mb, .int .i64 C.mr, .int .u32 C.modes, .int .i64 C.level, .bool C.eight, .bool C.stream, .int .i64 C.status, .bool C.below, .int .i64 D.page, .int .i64 C.pages], .int .i64 0], fun ys _ => ys 6 = .tuple #[.agg #[.int .i64 D.row, .int .i64 D.col, .int .u8 D.rend, .bool D.kept, .bool D.wrap, .bool C.origin, .int .i64 D.g0, .int .i64 D.g1, .int .i64 D.g2, .int .i64 D.g3, .int .i64 D.gl, .int .i64 D.gr, .int .i64 D.sg, .int .i64 C.pt, .int .i64 C.pl, .int .i64 C.pb, .int .i64 C.pr, .int .i64 C.mt, .int .i64 C.ml, .int .i64 C.mb, .int .i64 C.mr, .int .u32 C.modes, .int .i64 C.level, .bool C.eight, .bool C.stream, .int .i64 C.status, .bool C.below, .int .i64 D.page, .int .i64 C.pages], .int .i64 0], fun ys _ => ys 7 = .agg #[.int .i64 D.row, .int .i64 D.col, .int .u8 D.rend, .bool D.kept, .bool D.wrap, .bool C.origin, .int .i64 D.g0, .int .i64 D.g1, .int .i64 D.g2, .int .i64 D.g3, .int .i64 D.gl, .int .i64 D.gr, .int .i64 D.sg, .int .i64 C.pt, .int .i64 C.pl, .int .i64 C.pb, .int .i64 C.pr, .int .i64 C.mt, .int .i64 C.ml, .int .i64 C.mb, .int .i64 C.mr, .int .u32 C.modes, .int .i64 C.level, .bool C.eight, .bool C.stream, .int .i64 C.status, .bool C.below, .int .i64 D.page, .int .i64 C.pages], fun ys _ => ys 8 = .int .i64 0, OwnB w_186 9 29 45, PutB w_186 9 #[.int .i64 D.row, .int .i64 D.col, .int .u8 D.rend, .bool D.kept, .bool D.wrap, .bool C.origin, .int .i64 D.g0, .int .i64 D.g1, .int .i64 D.g2, .int .i64 D.g3, .int .i64 D.gl, .int .i64 D.gr, .int .i64 D.sg, .int .i64 C.pt, .int .i64 C.pl, .int .i64 C.pb, .int .i64 C.pr, .int .i64 C.mt, .int .i64 C.ml, .int .i64 C.mb, .int .i64 C.mr, .int .u32 C.modes, .int .i64 C.level, .bool C.eight, .bool C.stream, .int .i64 C.status, .bool C.below, .int .i64 D.page, .int .i64 C.pages] 45] := ⟨fun hne ys v W W1 g hv hge hb hf => (setYne hne).trans hf, ⟨fun hne ys v W W1 g hv hge hb hf => (setYne hne).trans hf, ⟨fun hne ys v W W1 g hv hge hb hf => (setYne hne).trans hf, ⟨fun hne ys v W W1 g hv hge hb hf => (setYne hne).trans hf, ⟨fun hne ys v W W1 g hv hge hb hf => (setYne hne).trans hf, ⟨fun hne ys v W W1 g hv hge hb hf => (setYne hne).trans hf, ⟨fun hne ys v W W1 g hv hge hb hf => (setYne hne).trans hf, ⟨fun hne ys v W W1 g hv hge hb hf => (setYne hne).trans hf, ⟨fun hne ys v W W1 g hv hge hb hf => (setYne hne).trans hf, ⟨fun hne ys v W W1 g hv hge hb hf => OwnB.put hf (by decide) hv hge hb rfl, ⟨fun hne ys v W W1 g hv hge hb hf => absurd rfl hne, trivial⟩⟩⟩⟩⟩⟩⟩⟩⟩⟩⟩
                    refine CW.drawY 11 (FWY [fun ys _ => ys 0 = .agg (cdA D), fun ys _ => ys 1 = .agg (cvA D), fun ys _ => ys 2 = .agg (cdA C), fun ys _ => ys 3 = .agg (cvA C), fun ys _ => ys 4 = .string (strOf (fmtGo C.clean.nums)), fun ys _ => ys 5 = .tuple #[.agg #[.int .i64 D.row, .int .i64 D.col, .int .u8 D.rend, .bool D.kept, .bool D.wrap, .bool C.origin, .int .i64 D.g0, .int .i64 D.g1, .int .i64 D.g2, .int .i64 D.g3, .int .i64 D.gl, .int .i64 D.gr, .int .i64 D.sg, .int .i64 C.pt, .int .i64 C.pl, .int .i64 C.pb, .int .i64 C.pr, .int .i64 C.mt, .int .i64 C.ml, .int .i64 C.mb, .int .i64 C.mr, .int .u32 C.modes, .int .i64 C.level, .bool C.eight, .bool C.stream, .int .i64 C.status, .bool C.below, .int .i64 D.page, .int .i64 C.pages], .int .i64 0], fun ys _ => ys 6 = .tuple #[.agg #[.int .i64 D.row, .int .i64 D.col, .int .u8 D.rend, .bool D.kept, .bool D.wrap, .bool C.origin, .int .i64 D.g0, .int .i64 D.g1, .int .i64 D.g2, .int .i64 D.g3, .int .i64 D.gl, .int .i64 D.gr, .int .i64 D.sg, .int .i64 C.pt, .int .i64 C.pl, .int .i64 C.pb, .int .i64 C.pr, .int .i64 C.mt, .int .i64 C.ml, .int .i64 C.mb, .int .i64 C.mr, .int .u32 C.modes, .int .i64 C.level, .bool C.eight, .bool C.stream, .int .i64 C.status, .bool C.below, .int .i64 D.page, .int .i64 C.pages], .int .i64 0], fun ys _ => ys 7 = .agg #[.int .i64 D.row, .int .i64 D.col, .int .u8 D.rend, .bool D.kept, .bool D.wrap, .bool C.origin, .int .i64 D.g0, .int .i64 D.g1, .int .i64 D.g2, .int .i64 D.g3, .int .i64 D.gl, .int .i64 D.gr, .int .i64 D.sg, .int .i64 C.pt, .int .i64 C.pl, .int .i64 C.pb, .int .i64 C.pr, .int .i64 C.mt, .int .i64 C.ml, .int .i64 C.mb, .int .i64 C.mr, .int .u32 C.modes, .int .i64 C.level, .bool C.eight, .bool C.stream, .int .i64 C.status, .bool C.below, .int .i64 D.page, .int .i64 C.pages], fun ys _ => ys 8 = .int .i64 0, OwnB w_186 9 29 45, PutB w_186 9 #[.int .i64 D.row, .int .i64 D.col, .int .u8 D.rend, .bool D.kept, .bool D.wrap, .bool C.origin, .int .i64 D.g0, .int .i64 D.g1, .int .i64 D.g2, .int .i64 D.g3, .int .i64 D.gl, .int .i64 D.gr, .int .i64 D.sg, .int .i64 C.pt, .int .i64 C.pl, .int .i64 C.pb, .int .i64 C.pr, .int .i64 C.mt, .int .i64 C.ml, .int .i64 C.mb, .int .i64 C.mr, .int .u32 C.modes, .int .i64 C.level, .bool C.eight, .bool C.stream, .int .i64 C.status, .bool C.below, .int .i64 D.page, .int .i64 C.pages] 45]) (fun _ W => Gr w_186 W) (by kernel_rfl) (by kernel_rfl) (by kernel_rfl) (by kernel_rfl) (by kernel_rfl) (Gr.refl _).drew ?_ ?_
                    · refine ⟨?_, ⟨?_, ⟨?_, ⟨?_, ⟨?_, ⟨?_, ⟨?_, ⟨?_, ⟨?_, ⟨?_, ⟨?_, trivial⟩⟩⟩⟩⟩⟩⟩⟩⟩⟩⟩
                      · intro L ys W hC hn hB hF hP K hK
                        show OpE _ _ _ W K
                        exact OpE.load (g := g_4) (off := 0) (v := .agg (cdA D)) rfl (by kernel_rfl) ((hs_187.grow hB).pt_at (i := 1) rfl) (by kernel_rfl) (hK _ W hB setYat (by intro k_ hk_ hf_; have hne_ : k_ ≠ 0 := (fun e => hn (by subst e; exact hk_)); exact FWY.keep KPY (by rw [Nat.zero_add]; exact hne_) (by rw [Nat.zero_add]; exact fun _ => by decide) (Gr.refl W) hf_))
                      · intro L ys W hC hn hB hF hP K hK
                        show OpE _ _ _ W K
                        exact OpE.known (j := 0) (v := .agg (cdA D)) (hF 0 (hP.1 rfl)) (OpE.call 7 #[.agg (cdA D)] W _ (by kernel_rfl) (own19 D W hmD) (fun x w' hx => by obtain ⟨rfl, hg⟩ := hx; exact ⟨_, rfl, hK _ w' (hB.trans hg) setYat (by intro k_ hk_ hf_; have hne_ : k_ ≠ 1 := (fun e => hn (by subst e; exact hk_)); exact FWY.keep KPY (by rw [Nat.zero_add]; exact hne_) (by rw [Nat.zero_add]; exact fun _ => by decide) hg hf_)⟩))
                      · intro L ys W hC hn hB hF hP K hK
                        show OpE _ _ _ W K
                        exact OpE.load (g := g_1) (off := 0) (v := .agg (cdA C)) rfl (by kernel_rfl) ((hs_187.grow hB).pt_at (i := 2) rfl) (by kernel_rfl) (hK _ W hB setYat (by intro k_ hk_ hf_; have hne_ : k_ ≠ 2 := (fun e => hn (by subst e; exact hk_)); exact FWY.keep KPY (by rw [Nat.zero_add]; exact hne_) (by rw [Nat.zero_add]; exact fun _ => by decide) (Gr.refl W) hf_))
                      · intro L ys W hC hn hB hF hP K hK
                        show OpE _ _ _ W K
                        exact OpE.known (j := 2) (v := .agg (cdA C)) (hF 2 (hP.1 rfl)) (OpE.call 7 #[.agg (cdA C)] W _ (by kernel_rfl) (own19 C W hmC) (fun x w' hx => by obtain ⟨rfl, hg⟩ := hx; exact ⟨_, rfl, hK _ w' (hB.trans hg) setYat (by intro k_ hk_ hf_; have hne_ : k_ ≠ 3 := (fun e => hn (by subst e; exact hk_)); exact FWY.keep KPY (by rw [Nat.zero_add]; exact hne_) (by rw [Nat.zero_add]; exact fun _ => by decide) hg hf_)⟩))
                      · intro L ys W hC hn hB hF hP K hK
                        show OpE _ _ _ W K
                        exact OpE.known (j := 3) (v := .agg (cvA C)) (hF 3 (hP.2.1 rfl)) (OpE.call 15 #[.agg (cvA C)] W _ (by kernel_rfl) (rep_any C W hG.ok (hT.gr (hs_187.grow hB).gr) hnum) (fun x w' hx => by obtain ⟨rfl, hg⟩ := hx; exact ⟨_, rfl, hK _ w' (hB.trans hg) setYat (by intro k_ hk_ hf_; have hne_ : k_ ≠ 4 := (fun e => hn (by subst e; exact hk_)); exact FWY.keep KPY (by rw [Nat.zero_add]; exact hne_) (by rw [Nat.zero_add]; exact fun _ => by decide) hg hf_)⟩))
                      · intro L ys W hC hn hB hF hP K hK
                        show OpE _ _ _ W K
                        exact OpE.known (j := 1) (v := .agg (cvA D)) (hF 1 (hP.1 rfl)) (OpE.known (j := 4) (v := .string (strOf (fmtGo C.clean.nums))) (hF 4 (hP.2.2.1 rfl)) (OpE.call 14 #[.agg (cvA D), .string (strOf (fmtGo C.clean.nums))] W _ (by kernel_rfl) (rst_D hG hW hokD W) (fun x w' hx => by obtain ⟨rfl, hg⟩ := hx; exact ⟨_, rfl, hK _ w' (hB.trans hg) setYat (by intro k_ hk_ hf_; have hne_ : k_ ≠ 5 := (fun e => hn (by subst e; exact hk_)); exact FWY.keep KPY (by rw [Nat.zero_add]; exact hne_) (by rw [Nat.zero_add]; exact fun _ => by decide) hg hf_)⟩)))
                      · intro L ys W hC hn hB hF hP K hK
                        show OpE _ _ _ W K
                        exact OpE.known (j := 5) (v := .tuple #[.agg #[.int .i64 D.row, .int .i64 D.col, .int .u8 D.rend, .bool D.kept, .bool D.wrap, .bool C.origin, .int .i64 D.g0, .int .i64 D.g1, .int .i64 D.g2, .int .i64 D.g3, .int .i64 D.gl, .int .i64 D.gr, .int .i64 D.sg, .int .i64 C.pt, .int .i64 C.pl, .int .i64 C.pb, .int .i64 C.pr, .int .i64 C.mt, .int .i64 C.ml, .int .i64 C.mb, .int .i64 C.mr, .int .u32 C.modes, .int .i64 C.level, .bool C.eight, .bool C.stream, .int .i64 C.status, .bool C.below, .int .i64 D.page, .int .i64 C.pages], .int .i64 0]) (hF 5 (hP.1 rfl)) (OpE.val (.tuple #[.agg #[.int .i64 D.row, .int .i64 D.col, .int .u8 D.rend, .bool D.kept, .bool D.wrap, .bool C.origin, .int .i64 D.g0, .int .i64 D.g1, .int .i64 D.g2, .int .i64 D.g3, .int .i64 D.gl, .int .i64 D.gr, .int .i64 D.sg, .int .i64 C.pt, .int .i64 C.pl, .int .i64 C.pb, .int .i64 C.pr, .int .i64 C.mt, .int .i64 C.ml, .int .i64 C.mb, .int .i64 C.mr, .int .u32 C.modes, .int .i64 C.level, .bool C.eight, .bool C.stream, .int .i64 C.status, .bool C.below, .int .i64 D.page, .int .i64 C.pages], .int .i64 0]) W (by kernel_rfl) (hK _ W hB setYat (by intro k_ hk_ hf_; have hne_ : k_ ≠ 6 := (fun e => hn (by subst e; exact hk_)); exact FWY.keep KPY (by rw [Nat.zero_add]; exact hne_) (by rw [Nat.zero_add]; exact fun _ => by decide) (Gr.refl W) hf_)))
                      · intro L ys W hC hn hB hF hP K hK
                        show OpE _ _ _ W K
                        exact OpE.known (j := 6) (v := .tuple #[.agg #[.int .i64 D.row, .int .i64 D.col, .int .u8 D.rend, .bool D.kept, .bool D.wrap, .bool C.origin, .int .i64 D.g0, .int .i64 D.g1, .int .i64 D.g2, .int .i64 D.g3, .int .i64 D.gl, .int .i64 D.gr, .int .i64 D.sg, .int .i64 C.pt, .int .i64 C.pl, .int .i64 C.pb, .int .i64 C.pr, .int .i64 C.mt, .int .i64 C.ml, .int .i64 C.mb, .int .i64 C.mr, .int .u32 C.modes, .int .i64 C.level, .bool C.eight, .bool C.stream, .int .i64 C.status, .bool C.below, .int .i64 D.page, .int .i64 C.pages], .int .i64 0]) (hF 6 (hP.1 rfl)) (OpE.val (.agg #[.int .i64 D.row, .int .i64 D.col, .int .u8 D.rend, .bool D.kept, .bool D.wrap, .bool C.origin, .int .i64 D.g0, .int .i64 D.g1, .int .i64 D.g2, .int .i64 D.g3, .int .i64 D.gl, .int .i64 D.gr, .int .i64 D.sg, .int .i64 C.pt, .int .i64 C.pl, .int .i64 C.pb, .int .i64 C.pr, .int .i64 C.mt, .int .i64 C.ml, .int .i64 C.mb, .int .i64 C.mr, .int .u32 C.modes, .int .i64 C.level, .bool C.eight, .bool C.stream, .int .i64 C.status, .bool C.below, .int .i64 D.page, .int .i64 C.pages]) W (by kernel_rfl) (hK _ W hB setYat (by intro k_ hk_ hf_; have hne_ : k_ ≠ 7 := (fun e => hn (by subst e; exact hk_)); exact FWY.keep KPY (by rw [Nat.zero_add]; exact hne_) (by rw [Nat.zero_add]; exact fun _ => by decide) (Gr.refl W) hf_)))
                      · intro L ys W hC hn hB hF hP K hK
                        show OpE _ _ _ W K
                        exact OpE.known (j := 6) (v := .tuple #[.agg #[.int .i64 D.row, .int .i64 D.col, .int .u8 D.rend, .bool D.kept, .bool D.wrap, .bool C.origin, .int .i64 D.g0, .int .i64 D.g1, .int .i64 D.g2, .int .i64 D.g3, .int .i64 D.gl, .int .i64 D.gr, .int .i64 D.sg, .int .i64 C.pt, .int .i64 C.pl, .int .i64 C.pb, .int .i64 C.pr, .int .i64 C.mt, .int .i64 C.ml, .int .i64 C.mb, .int .i64 C.mr, .int .u32 C.modes, .int .i64 C.level, .bool C.eight, .bool C.stream, .int .i64 C.status, .bool C.below, .int .i64 D.page, .int .i64 C.pages], .int .i64 0]) (hF 6 (hP.1 rfl)) (OpE.val (.int .i64 0) W (by kernel_rfl) (hK _ W hB setYat (by intro k_ hk_ hf_; have hne_ : k_ ≠ 8 := (fun e => hn (by subst e; exact hk_)); exact FWY.keep KPY (by rw [Nat.zero_add]; exact hne_) (by rw [Nat.zero_add]; exact fun _ => by decide) (Gr.refl W) hf_)))
                      · intro L ys W hC hn hB hF hP K hK
                        show OpE _ _ _ W K
                        exact OpE.new (mk := fun g => .pointer (some ⟨g, 0, none⟩)) (C := czA) (T := 45) (by kernel_rfl) (hK _ _ (hB.alloc _) (⟨W.heap.size, _, setYat, hB.size, heap_alloc_new _ _, rfl⟩) (by intro k_ hk_ hf_; have hne_ : k_ ≠ 9 := (fun e => hn (by subst e; exact hk_)); exact FWY.keep KPY (by rw [Nat.zero_add]; exact hne_) (by rw [Nat.zero_add]; exact fun e => absurd (hC 10 (by subst e; exact hk_) 9 (by decide)) hn) ((Gr.refl W).alloc _) hf_))
                      · intro L ys W hC hn hB hF hP K hK
                        obtain ⟨g_, C_, hv_, hge_, hb_, hsz_⟩ := hF 9 (hP.2.2.2.2.2.2.2.2.2.2.2.2.1 rfl)
                        show OpE _ _ _ W K
                        obtain ⟨q1_, q2_, q3_⟩ := setCells_blk (t := 45) ((.agg #[.int .i64 D.row, .int .i64 D.col, .int .u8 D.rend, .bool D.kept, .bool D.wrap, .bool C.origin, .int .i64 D.g0, .int .i64 D.g1, .int .i64 D.g2, .int .i64 D.g3, .int .i64 D.gl, .int .i64 D.gr, .int .i64 D.sg, .int .i64 C.pt, .int .i64 C.pl, .int .i64 C.pb, .int .i64 C.pr, .int .i64 C.mt, .int .i64 C.ml, .int .i64 C.mb, .int .i64 C.mr, .int .u32 C.modes, .int .i64 C.level, .bool C.eight, .bool C.stream, .int .i64 C.status, .bool C.below, .int .i64 D.page, .int .i64 C.pages] : Value).cells.toList) 0 W C_ hb_
                        have hset_ : setL C_ 0 ((.agg #[.int .i64 D.row, .int .i64 D.col, .int .u8 D.rend, .bool D.kept, .bool D.wrap, .bool C.origin, .int .i64 D.g0, .int .i64 D.g1, .int .i64 D.g2, .int .i64 D.g3, .int .i64 D.gl, .int .i64 D.gr, .int .i64 D.sg, .int .i64 C.pt, .int .i64 C.pl, .int .i64 C.pb, .int .i64 C.pr, .int .i64 C.mt, .int .i64 C.ml, .int .i64 C.mb, .int .i64 C.mr, .int .u32 C.modes, .int .i64 C.level, .bool C.eight, .bool C.stream, .int .i64 C.status, .bool C.below, .int .i64 D.page, .int .i64 C.pages] : Value).cells.toList) = #[.int .i64 D.row, .int .i64 D.col, .int .u8 D.rend, .bool D.kept, .bool D.wrap, .bool C.origin, .int .i64 D.g0, .int .i64 D.g1, .int .i64 D.g2, .int .i64 D.g3, .int .i64 D.gl, .int .i64 D.gr, .int .i64 D.sg, .int .i64 C.pt, .int .i64 C.pl, .int .i64 C.pb, .int .i64 C.pr, .int .i64 C.mt, .int .i64 C.ml, .int .i64 C.mb, .int .i64 C.mr, .int .u32 C.modes, .int .i64 C.level, .bool C.eight, .bool C.stream, .int .i64 C.status, .bool C.below, .int .i64 D.page, .int .i64 C.pages] := setL_allY (by rw [hsz_]; rfl)
                        rw [hset_] at q1_
                        have hg_ : Gr w_186 (W.setCells g_ 0 ((.agg #[.int .i64 D.row, .int .i64 D.col, .int .u8 D.rend, .bool D.kept, .bool D.wrap, .bool C.origin, .int .i64 D.g0, .int .i64 D.g1, .int .i64 D.g2, .int .i64 D.g3, .int .i64 D.gl, .int .i64 D.gr, .int .i64 D.sg, .int .i64 C.pt, .int .i64 C.pl, .int .i64 C.pb, .int .i64 C.pr, .int .i64 C.mt, .int .i64 C.ml, .int .i64 C.mb, .int .i64 C.mr, .int .u32 C.modes, .int .i64 C.level, .bool C.eight, .bool C.stream, .int .i64 C.status, .bool C.below, .int .i64 D.page, .int .i64 C.pages] : Value).cells.toList)) := hB.upd q2_ (by simpa using hge_)
                        exact OpE.known (j := 9) (v := .pointer (some ⟨g_, 0, none⟩)) hv_ (OpE.known (j := 7) (v := .agg #[.int .i64 D.row, .int .i64 D.col, .int .u8 D.rend, .bool D.kept, .bool D.wrap, .bool C.origin, .int .i64 D.g0, .int .i64 D.g1, .int .i64 D.g2, .int .i64 D.g3, .int .i64 D.gl, .int .i64 D.gr, .int .i64 D.sg, .int .i64 C.pt, .int .i64 C.pl, .int .i64 C.pb, .int .i64 C.pr, .int .i64 C.mt, .int .i64 C.ml, .int .i64 C.mb, .int .i64 C.mr, .int .u32 C.modes, .int .i64 C.level, .bool C.eight, .bool C.stream, .int .i64 C.status, .bool C.below, .int .i64 D.page, .int .i64 C.pages]) (hF 7 (hP.2.2.2.2.2.2.2.2.2.2.1 rfl)) (OpE.store (g := g_) (off := 0) (C := C_) (T := 45) (v := .agg #[.int .i64 D.row, .int .i64 D.col, .int .u8 D.rend, .bool D.kept, .bool D.wrap, .bool C.origin, .int .i64 D.g0, .int .i64 D.g1, .int .i64 D.g2, .int .i64 D.g3, .int .i64 D.gl, .int .i64 D.gr, .int .i64 D.sg, .int .i64 C.pt, .int .i64 C.pl, .int .i64 C.pb, .int .i64 C.pr, .int .i64 C.mt, .int .i64 C.ml, .int .i64 C.mb, .int .i64 C.mr, .int .u32 C.modes, .int .i64 C.level, .bool C.eight, .bool C.stream, .int .i64 C.status, .bool C.below, .int .i64 D.page, .int .i64 C.pages]) rfl (by kernel_rfl) (by kernel_rfl) hb_ (by kernel_rfl) (by kernel_rfl) (by rw [hsz_]; rfl) (hK _ _ hg_ (⟨g_, by rw [setYne (by decide)]; exact hv_, hge_, q1_⟩) (by intro k_ hk_ hf_; have hne_ : k_ ≠ 10 := (fun e => hn (by subst e; exact hk_)); exact FWY.put KPS (by rw [Nat.zero_add]; exact hne_) hv_ hge_ (q1_) hf_))))
                    · intro ys_195 w_191 hg_192 hF_194
                      obtain ⟨g_196, hv_, hge_, hb_⟩ := hF_194 10 (by decide)
                      have hs_197 := hs_187.fresh hg_192 hb_ hge_
                      have hs_197 : SH [] w w_191 [pt g_171 #[.int .i64 C.row, .int .i64 C.col, .int .u8 C.rend, .bool C.kept, .bool C.wrap, .bool C.origin, .int .i64 C.g0, .int .i64 C.g1, .int .i64 C.g2, .int .i64 C.g3, .int .i64 C.gl, .int .i64 C.gr, .int .i64 C.sg, .int .i64 D.pt, .int .i64 D.pl, .int .i64 D.pb, .int .i64 D.pr, .int .i64 D.mt, .int .i64 D.ml, .int .i64 D.mb, .int .i64 D.mr, .int .i64 D.modes, .int .i64 D.level, .bool D.eight, .bool D.stream, .int .i64 D.status, .bool D.below, .int .i64 C.page, .int .i64 D.pages] 33, pt g_4 (cdA D) 33, pt g_1 (cdA C) 33, pt g_169 #[.int .i64 C.row, .int .i64 C.col, .int .u8 C.rend, .bool C.kept, .bool C.wrap, .bool C.origin, .int .i64 C.g0, .int .i64 C.g1, .int .i64 C.g2, .int .i64 C.g3, .int .i64 C.gl, .int .i64 C.gr, .int .i64 C.sg, .int .i64 D.pt, .int .i64 D.pl, .int .i64 D.pb, .int .i64 D.pr, .int .i64 D.mt, .int .i64 D.ml, .int .i64 D.mb, .int .i64 D.mr, .int .u32 D.modes, .int .i64 D.level, .bool D.eight, .bool D.stream, .int .i64 D.status, .bool D.below, .int .i64 C.page, .int .i64 D.pages] 45, pt g_196 #[.int .i64 D.row, .int .i64 D.col, .int .u8 D.rend, .bool D.kept, .bool D.wrap, .bool C.origin, .int .i64 D.g0, .int .i64 D.g1, .int .i64 D.g2, .int .i64 D.g3, .int .i64 D.gl, .int .i64 D.gr, .int .i64 D.sg, .int .i64 C.pt, .int .i64 C.pl, .int .i64 C.pb, .int .i64 C.pr, .int .i64 C.mt, .int .i64 C.ml, .int .i64 C.mb, .int .i64 C.mr, .int .u32 C.modes, .int .i64 C.level, .bool C.eight, .bool C.stream, .int .i64 C.status, .bool C.below, .int .i64 D.page, .int .i64 C.pages] 45] := hs_197
                      refine SL.knownY (j := 8) (v := .int .i64 0) (hF_194 8 (by decide)) (SL.knownY (j := 9) (v := .pointer (some ⟨g_196, 0, none⟩)) hv_ (?_))
                      clear hF_194 KPY KPS
                      refine SL.v (.int .i64 0) ?_
                      refine SL.nil ?_
                      refine CW.seq ?_
                      refine CW.region ?_
                      refine SL.load (g := g_1) (off := 0) (v := .agg (cdA C)) rfl rfl rfl (by kernel_rfl) (hs_197.pt_at (i := 2) rfl) (by kernel_rfl) ?_
                      refine SL.newH (mk := fun g => .pointer (some ⟨g, 0, none⟩)) (C := czD) (T := 33) hs_197 rfl rfl (by kernel_rfl) (fun g_198 w_199 hs_200 => ?_)
                      have hs_200 : SH [] w w_199 [pt g_171 #[.int .i64 C.row, .int .i64 C.col, .int .u8 C.rend, .bool C.kept, .bool C.wrap, .bool C.origin, .int .i64 C.g0, .int .i64 C.g1, .int .i64 C.g2, .int .i64 C.g3, .int .i64 C.gl, .int .i64 C.gr, .int .i64 C.sg, .int .i64 D.pt, .int .i64 D.pl, .int .i64 D.pb, .int .i64 D.pr, .int .i64 D.mt, .int .i64 D.ml, .int .i64 D.mb, .int .i64 D.mr, .int .i64 D.modes, .int .i64 D.level, .bool D.eight, .bool D.stream, .int .i64 D.status, .bool D.below, .int .i64 C.page, .int .i64 D.pages] 33, pt g_4 (cdA D) 33, pt g_1 (cdA C) 33, pt g_169 #[.int .i64 C.row, .int .i64 C.col, .int .u8 C.rend, .bool C.kept, .bool C.wrap, .bool C.origin, .int .i64 C.g0, .int .i64 C.g1, .int .i64 C.g2, .int .i64 C.g3, .int .i64 C.gl, .int .i64 C.gr, .int .i64 C.sg, .int .i64 D.pt, .int .i64 D.pl, .int .i64 D.pb, .int .i64 D.pr, .int .i64 D.mt, .int .i64 D.ml, .int .i64 D.mb, .int .i64 D.mr, .int .u32 D.modes, .int .i64 D.level, .bool D.eight, .bool D.stream, .int .i64 D.status, .bool D.below, .int .i64 C.page, .int .i64 D.pages] 45, pt g_196 #[.int .i64 D.row, .int .i64 D.col, .int .u8 D.rend, .bool D.kept, .bool D.wrap, .bool C.origin, .int .i64 D.g0, .int .i64 D.g1, .int .i64 D.g2, .int .i64 D.g3, .int .i64 D.gl, .int .i64 D.gr, .int .i64 D.sg, .int .i64 C.pt, .int .i64 C.pl, .int .i64 C.pb, .int .i64 C.pr, .int .i64 C.mt, .int .i64 C.ml, .int .i64 C.mb, .int .i64 C.mr, .int .u32 C.modes, .int .i64 C.level, .bool C.eight, .bool C.stream, .int .i64 C.status, .bool C.below, .int .i64 D.page, .int .i64 C.pages] 45, pt g_198 czD 33] := hs_200
                      refine SL.storeH (i := 5) (g := g_198) (off := 0) (v := .agg (cdA C)) (L' := [pt g_171 #[.int .i64 C.row, .int .i64 C.col, .int .u8 C.rend, .bool C.kept, .bool C.wrap, .bool C.origin, .int .i64 C.g0, .int .i64 C.g1, .int .i64 C.g2, .int .i64 C.g3, .int .i64 C.gl, .int .i64 C.gr, .int .i64 C.sg, .int .i64 D.pt, .int .i64 D.pl, .int .i64 D.pb, .int .i64 D.pr, .int .i64 D.mt, .int .i64 D.ml, .int .i64 D.mb, .int .i64 D.mr, .int .i64 D.modes, .int .i64 D.level, .bool D.eight, .bool D.stream, .int .i64 D.status, .bool D.below, .int .i64 C.page, .int .i64 D.pages] 33, pt g_4 (cdA D) 33, pt g_1 (cdA C) 33, pt g_169 #[.int .i64 C.row, .int .i64 C.col, .int .u8 C.rend, .bool C.kept, .bool C.wrap, .bool C.origin, .int .i64 C.g0, .int .i64 C.g1, .int .i64 C.g2, .int .i64 C.g3, .int .i64 C.gl, .int .i64 C.gr, .int .i64 C.sg, .int .i64 D.pt, .int .i64 D.pl, .int .i64 D.pb, .int .i64 D.pr, .int .i64 D.mt, .int .i64 D.ml, .int .i64 D.mb, .int .i64 D.mr, .int .u32 D.modes, .int .i64 D.level, .bool D.eight, .bool D.stream, .int .i64 D.status, .bool D.below, .int .i64 C.page, .int .i64 D.pages] 45, pt g_196 #[.int .i64 D.row, .int .i64 D.col, .int .u8 D.rend, .bool D.kept, .bool D.wrap, .bool C.origin, .int .i64 D.g0, .int .i64 D.g1, .int .i64 D.g2, .int .i64 D.g3, .int .i64 D.gl, .int .i64 D.gr, .int .i64 D.sg, .int .i64 C.pt, .int .i64 C.pl, .int .i64 C.pb, .int .i64 C.pr, .int .i64 C.mt, .int .i64 C.ml, .int .i64 C.mb, .int .i64 C.mr, .int .u32 C.modes, .int .i64 C.level, .bool C.eight, .bool C.stream, .int .i64 C.status, .bool C.below, .int .i64 D.page, .int .i64 C.pages] 45, pt g_198 (cdA C) 33]) hs_200 rfl rfl rfl (by kernel_rfl) (by kernel_rfl) rfl (by kernel_rfl) (by kernel_rfl) rfl (by kernel_rfl) rfl (fun w_201 hs_202 => ?_)
                      refine SL.nil ?_
                      refine CW.seq ?_
                      obtain ⟨fj_203, hpj_204, hfr_205⟩ := hs_202.frame (Pre := [pt g_198 (cdA C) 33]) (Rest := [pt g_171 #[.int .i64 C.row, .int .i64 C.col, .int .u8 C.rend, .bool C.kept, .bool C.wrap, .bool C.origin, .int .i64 C.g0, .int .i64 C.g1, .int .i64 C.g2, .int .i64 C.g3, .int .i64 C.gl, .int .i64 C.gr, .int .i64 C.sg, .int .i64 D.pt, .int .i64 D.pl, .int .i64 D.pb, .int .i64 D.pr, .int .i64 D.mt, .int .i64 D.ml, .int .i64 D.mb, .int .i64 D.mr, .int .i64 D.modes, .int .i64 D.level, .bool D.eight, .bool D.stream, .int .i64 D.status, .bool D.below, .int .i64 C.page, .int .i64 D.pages] 33, pt g_4 (cdA D) 33, pt g_1 (cdA C) 33, pt g_169 #[.int .i64 C.row, .int .i64 C.col, .int .u8 C.rend, .bool C.kept, .bool C.wrap, .bool C.origin, .int .i64 C.g0, .int .i64 C.g1, .int .i64 C.g2, .int .i64 C.g3, .int .i64 C.gl, .int .i64 C.gr, .int .i64 C.sg, .int .i64 D.pt, .int .i64 D.pl, .int .i64 D.pb, .int .i64 D.pr, .int .i64 D.mt, .int .i64 D.ml, .int .i64 D.mb, .int .i64 D.mr, .int .u32 D.modes, .int .i64 D.level, .bool D.eight, .bool D.stream, .int .i64 D.status, .bool D.below, .int .i64 C.page, .int .i64 D.pages] 45, pt g_196 #[.int .i64 D.row, .int .i64 D.col, .int .u8 D.rend, .bool D.kept, .bool D.wrap, .bool C.origin, .int .i64 D.g0, .int .i64 D.g1, .int .i64 D.g2, .int .i64 D.g3, .int .i64 D.gl, .int .i64 D.gr, .int .i64 D.sg, .int .i64 C.pt, .int .i64 C.pl, .int .i64 C.pb, .int .i64 C.pr, .int .i64 C.mt, .int .i64 C.ml, .int .i64 C.mb, .int .i64 C.mr, .int .u32 C.modes, .int .i64 C.level, .bool C.eight, .bool C.stream, .int .i64 C.status, .bool C.below, .int .i64 D.page, .int .i64 C.pages] 45]) [5] rfl
                      have HGR : GrL [fun v _ => v = .pointer (some ⟨g_4, 0, none⟩), fun v _ => v = .agg #[.int .i64 D.row, .int .i64 D.col, .int .u8 D.rend, .bool D.kept, .bool D.wrap, .bool D.origin, .int .i64 D.g0, .int .i64 D.g1, .int .i64 D.g2, .int .i64 D.g3, .int .i64 D.gl, .int .i64 D.gr, .int .i64 D.sg], fun v _ => v = .pointer (some ⟨g_4, 27, none⟩), fun v _ => v = .int .i64 D.page, fun v _ => v = .pointer (some ⟨g_198, 0, none⟩), fun _ _ => True] := ⟨fun _ _ _ _ h => h, ⟨fun _ _ _ _ h => h, ⟨fun _ _ _ _ h => h, ⟨fun _ _ _ _ h => h, ⟨fun _ _ _ _ h => h, ⟨fun _ _ _ _ h => h, trivial⟩⟩⟩⟩⟩⟩
                      have HPU : PureL [fun v _ => v = .pointer (some ⟨g_4, 0, none⟩), fun v _ => v = .agg #[.int .i64 D.row, .int .i64 D.col, .int .u8 D.rend, .bool D.kept, .bool D.wrap, .bool D.origin, .int .i64 D.g0, .int .i64 D.g1, .int .i64 D.g2, .int .i64 D.g3, .int .i64 D.gl, .int .i64 D.gr, .int .i64 D.sg], fun v _ => v = .pointer (some ⟨g_4, 27, none⟩), fun v _ => v = .int .i64 D.page, fun v _ => v = .pointer (some ⟨g_198, 0, none⟩), fun _ _ => True] := ⟨fun _ _ _ h => h, ⟨fun _ _ _ h => h, ⟨fun _ _ _ h => h, ⟨fun _ _ _ h => h, ⟨fun _ _ _ h => h, ⟨fun _ _ _ h => h, trivial⟩⟩⟩⟩⟩⟩
                      refine CW.drawG 6 (FW [fun v _ => v = .pointer (some ⟨g_4, 0, none⟩), fun v _ => v = .agg #[.int .i64 D.row, .int .i64 D.col, .int .u8 D.rend, .bool D.kept, .bool D.wrap, .bool D.origin, .int .i64 D.g0, .int .i64 D.g1, .int .i64 D.g2, .int .i64 D.g3, .int .i64 D.gl, .int .i64 D.gr, .int .i64 D.sg], fun v _ => v = .pointer (some ⟨g_4, 27, none⟩), fun v _ => v = .int .i64 D.page, fun v _ => v = .pointer (some ⟨g_198, 0, none⟩), fun _ _ => True]) (BaseS [5] fj_203 w_201 [[pt g_198 (cdA C) 33], [pt g_198 #[.int .i64 D.row, .int .i64 D.col, .int .u8 D.rend, .bool D.kept, .bool D.wrap, .bool D.origin, .int .i64 D.g0, .int .i64 D.g1, .int .i64 D.g2, .int .i64 D.g3, .int .i64 D.gl, .int .i64 D.gr, .int .i64 D.sg, .int .i64 C.pt, .int .i64 C.pl, .int .i64 C.pb, .int .i64 C.pr, .int .i64 C.mt, .int .i64 C.ml, .int .i64 C.mb, .int .i64 C.mr, .int .i64 C.modes, .int .i64 C.level, .bool C.eight, .bool C.stream, .int .i64 C.status, .bool C.below, .int .i64 C.page, .int .i64 C.pages] 33]]) (by kernel_rfl) (by kernel_rfl) (by kernel_rfl) (by kernel_rfl) (by kernel_rfl) (BaseS.init hpj_204) ?_ ?_
                      · refine ⟨?_, ⟨?_, ⟨?_, ⟨?_, ⟨?_, ⟨?_, trivial⟩⟩⟩⟩⟩⟩
                        · intro L ys W hC hn hB hF hP K hK
                          show OpE _ _ _ W K
                          exact OpE.val (.pointer (some ⟨g_4, 0, none⟩)) W (by kernel_rfl) (hK _ W (hB.step (by decide) (Gr.refl W)) rfl (fun _ _ h => h))
                        · intro L ys W hC hn hB hF hP K hK
                          show OpE _ _ _ W K
                          exact OpE.known (j := 0) (v := .pointer (some ⟨g_4, 0, none⟩)) (hF 0 (hP.1 rfl)) (OpE.load (g := g_4) (off := 0) (v := .agg #[.int .i64 D.row, .int .i64 D.col, .int .u8 D.rend, .bool D.kept, .bool D.wrap, .bool D.origin, .int .i64 D.g0, .int .i64 D.g1, .int .i64 D.g2, .int .i64 D.g3, .int .i64 D.gl, .int .i64 D.gr, .int .i64 D.sg]) rfl (by kernel_rfl) ((show SH [] w W [pt g_171 #[.int .i64 C.row, .int .i64 C.col, .int .u8 C.rend, .bool C.kept, .bool C.wrap, .bool C.origin, .int .i64 C.g0, .int .i64 C.g1, .int .i64 C.g2, .int .i64 C.g3, .int .i64 C.gl, .int .i64 C.gr, .int .i64 C.sg, .int .i64 D.pt, .int .i64 D.pl, .int .i64 D.pb, .int .i64 D.pr, .int .i64 D.mt, .int .i64 D.ml, .int .i64 D.mb, .int .i64 D.mr, .int .i64 D.modes, .int .i64 D.level, .bool D.eight, .bool D.stream, .int .i64 D.status, .bool D.below, .int .i64 C.page, .int .i64 D.pages] 33, pt g_4 (cdA D) 33, pt g_1 (cdA C) 33, pt g_169 #[.int .i64 C.row, .int .i64 C.col, .int .u8 C.rend, .bool C.kept, .bool C.wrap, .bool C.origin, .int .i64 C.g0, .int .i64 C.g1, .int .i64 C.g2, .int .i64 C.g3, .int .i64 C.gl, .int .i64 C.gr, .int .i64 C.sg, .int .i64 D.pt, .int .i64 D.pl, .int .i64 D.pb, .int .i64 D.pr, .int .i64 D.mt, .int .i64 D.ml, .int .i64 D.mb, .int .i64 D.mr, .int .u32 D.modes, .int .i64 D.level, .bool D.eight, .bool D.stream, .int .i64 D.status, .bool D.below, .int .i64 C.page, .int .i64 D.pages] 45, pt g_196 #[.int .i64 D.row, .int .i64 D.col, .int .u8 D.rend, .bool D.kept, .bool D.wrap, .bool C.origin, .int .i64 D.g0, .int .i64 D.g1, .int .i64 D.g2, .int .i64 D.g3, .int .i64 D.gl, .int .i64 D.gr, .int .i64 D.sg, .int .i64 C.pt, .int .i64 C.pl, .int .i64 C.pb, .int .i64 C.pr, .int .i64 C.mt, .int .i64 C.ml, .int .i64 C.mb, .int .i64 C.mr, .int .u32 C.modes, .int .i64 C.level, .bool C.eight, .bool C.stream, .int .i64 C.status, .bool C.below, .int .i64 D.page, .int .i64 C.pages] 45] from hfr_205 W [] [] hB.upd rfl (by simp)).pt_at (i := 1) rfl) (by kernel_rfl) (hK _ W (hB.step (by decide) (Gr.refl W)) rfl (fun _ _ h => h)))
                        · intro L ys W hC hn hB hF hP K hK
                          show OpE _ _ _ W K
                          exact OpE.val (.pointer (some ⟨g_4, 27, none⟩)) W (by kernel_rfl) (hK _ W (hB.step (by decide) (Gr.refl W)) rfl (fun _ _ h => h))
                        · intro L ys W hC hn hB hF hP K hK
                          show OpE _ _ _ W K
                          exact OpE.known (j := 2) (v := .pointer (some ⟨g_4, 27, none⟩)) (hF 2 (hP.1 rfl)) (OpE.load (g := g_4) (off := 27) (v := .int .i64 D.page) rfl (by kernel_rfl) ((show SH [] w W [pt g_171 #[.int .i64 C.row, .int .i64 C.col, .int .u8 C.rend, .bool C.kept, .bool C.wrap, .bool C.origin, .int .i64 C.g0, .int .i64 C.g1, .int .i64 C.g2, .int .i64 C.g3, .int .i64 C.gl, .int .i64 C.gr, .int .i64 C.sg, .int .i64 D.pt, .int .i64 D.pl, .int .i64 D.pb, .int .i64 D.pr, .int .i64 D.mt, .int .i64 D.ml, .int .i64 D.mb, .int .i64 D.mr, .int .i64 D.modes, .int .i64 D.level, .bool D.eight, .bool D.stream, .int .i64 D.status, .bool D.below, .int .i64 C.page, .int .i64 D.pages] 33, pt g_4 (cdA D) 33, pt g_1 (cdA C) 33, pt g_169 #[.int .i64 C.row, .int .i64 C.col, .int .u8 C.rend, .bool C.kept, .bool C.wrap, .bool C.origin, .int .i64 C.g0, .int .i64 C.g1, .int .i64 C.g2, .int .i64 C.g3, .int .i64 C.gl, .int .i64 C.gr, .int .i64 C.sg, .int .i64 D.pt, .int .i64 D.pl, .int .i64 D.pb, .int .i64 D.pr, .int .i64 D.mt, .int .i64 D.ml, .int .i64 D.mb, .int .i64 D.mr, .int .u32 D.modes, .int .i64 D.level, .bool D.eight, .bool D.stream, .int .i64 D.status, .bool D.below, .int .i64 C.page, .int .i64 D.pages] 45, pt g_196 #[.int .i64 D.row, .int .i64 D.col, .int .u8 D.rend, .bool D.kept, .bool D.wrap, .bool C.origin, .int .i64 D.g0, .int .i64 D.g1, .int .i64 D.g2, .int .i64 D.g3, .int .i64 D.gl, .int .i64 D.gr, .int .i64 D.sg, .int .i64 C.pt, .int .i64 C.pl, .int .i64 C.pb, .int .i64 C.pr, .int .i64 C.mt, .int .i64 C.ml, .int .i64 C.mb, .int .i64 C.mr, .int .u32 C.modes, .int .i64 C.level, .bool C.eight, .bool C.stream, .int .i64 C.status, .bool C.below, .int .i64 D.page, .int .i64 C.pages] 45] from hfr_205 W [] [] hB.upd rfl (by simp)).pt_at (i := 1) rfl) (by kernel_rfl) (hK _ W (hB.step (by decide) (Gr.refl W)) rfl (fun _ _ h => h)))
                        · intro L ys W hC hn hB hF hP K hK
                          show OpE _ _ _ W K
                          exact OpE.val (.pointer (some ⟨g_198, 0, none⟩)) W (by kernel_rfl) (hK _ W (hB.step (by decide) (Gr.refl W)) rfl (fun _ _ h => h))
                        · intro L ys W hC hn hB hF hP K hK
                          show OpE _ _ _ W K
                          have hst := hB.at_ (k := 0) (P := [pt g_198 (cdA C) 33]) rfl (by decide) rfl prev_0 (next_at 5 rfl hn)
                          obtain ⟨hq_, hu_⟩ := hst.setCells (i := 0) (g := g_198) (C := (cdA C)) (T := 33) rfl 0 ((.agg #[.int .i64 D.row, .int .i64 D.col, .int .u8 D.rend, .bool D.kept, .bool D.wrap, .bool D.origin, .int .i64 D.g0, .int .i64 D.g1, .int .i64 D.g2, .int .i64 D.g3, .int .i64 D.gl, .int .i64 D.gr, .int .i64 D.sg] : Value).cells.toList)
                          have hset_ : (([pt g_198 (cdA C) 33] : List HA).set 0 (pt g_198 (setL (cdA C) 0 ((.agg #[.int .i64 D.row, .int .i64 D.col, .int .u8 D.rend, .bool D.kept, .bool D.wrap, .bool D.origin, .int .i64 D.g0, .int .i64 D.g1, .int .i64 D.g2, .int .i64 D.g3, .int .i64 D.gl, .int .i64 D.gr, .int .i64 D.sg] : Value).cells.toList)) 33)) = [pt g_198 #[.int .i64 D.row, .int .i64 D.col, .int .u8 D.rend, .bool D.kept, .bool D.wrap, .bool D.origin, .int .i64 D.g0, .int .i64 D.g1, .int .i64 D.g2, .int .i64 D.g3, .int .i64 D.gl, .int .i64 D.gr, .int .i64 D.sg, .int .i64 C.pt, .int .i64 C.pl, .int .i64 C.pb, .int .i64 C.pr, .int .i64 C.mt, .int .i64 C.ml, .int .i64 C.mb, .int .i64 C.mr, .int .i64 C.modes, .int .i64 C.level, .bool C.eight, .bool C.stream, .int .i64 C.status, .bool C.below, .int .i64 C.page, .int .i64 C.pages] 33] := by kernel_rfl
                          rw [hset_] at hq_
                          exact OpE.known (j := 4) (v := .pointer (some ⟨g_198, 0, none⟩)) (hF 4 (hP.1 rfl)) (OpE.known (j := 1) (v := .agg #[.int .i64 D.row, .int .i64 D.col, .int .u8 D.rend, .bool D.kept, .bool D.wrap, .bool D.origin, .int .i64 D.g0, .int .i64 D.g1, .int .i64 D.g2, .int .i64 D.g3, .int .i64 D.gl, .int .i64 D.gr, .int .i64 D.sg]) (hF 1 (hP.2.2.2.1 rfl)) (OpE.store (g := g_198) (off := 0) (C := (cdA C)) (T := 33) (v := .agg #[.int .i64 D.row, .int .i64 D.col, .int .u8 D.rend, .bool D.kept, .bool D.wrap, .bool D.origin, .int .i64 D.g0, .int .i64 D.g1, .int .i64 D.g2, .int .i64 D.g3, .int .i64 D.gl, .int .i64 D.gr, .int .i64 D.sg]) rfl (by kernel_rfl) (by kernel_rfl) (hst.pt_at (i := 0) rfl) (by kernel_rfl) (by kernel_rfl) (by kernel_rfl) (hK _ _ (hB.done (k := 0) (P := [pt g_198 (cdA C) 33]) (P' := [pt g_198 #[.int .i64 D.row, .int .i64 D.col, .int .u8 D.rend, .bool D.kept, .bool D.wrap, .bool D.origin, .int .i64 D.g0, .int .i64 D.g1, .int .i64 D.g2, .int .i64 D.g3, .int .i64 D.gl, .int .i64 D.gr, .int .i64 D.sg, .int .i64 C.pt, .int .i64 C.pl, .int .i64 C.pb, .int .i64 C.pr, .int .i64 C.mt, .int .i64 C.ml, .int .i64 C.mb, .int .i64 C.mr, .int .i64 C.modes, .int .i64 C.level, .bool C.eight, .bool C.stream, .int .i64 C.status, .bool C.below, .int .i64 C.page, .int .i64 C.pages] 33]) rfl (by decide) rfl rfl rfl prev_0 hn hu_ hq_) trivial (fun _ _ h => FW.pureL HPU h))))
                      · intro ys_210 w_206 hb_207 hF_209
                        have hst_ := hb_207.at_ (k := 1) (P := [pt g_198 #[.int .i64 D.row, .int .i64 D.col, .int .u8 D.rend, .bool D.kept, .bool D.wrap, .bool D.origin, .int .i64 D.g0, .int .i64 D.g1, .int .i64 D.g2, .int .i64 D.g3, .int .i64 D.gl, .int .i64 D.gr, .int .i64 D.sg, .int .i64 C.pt, .int .i64 C.pl, .int .i64 C.pb, .int .i64 C.pr, .int .i64 C.mt, .int .i64 C.ml, .int .i64 C.mb, .int .i64 C.mr, .int .i64 C.modes, .int .i64 C.level, .bool C.eight, .bool C.stream, .int .i64 C.status, .bool C.below, .int .i64 C.page, .int .i64 C.pages] 33]) rfl (by decide) rfl (prev_at (k := 0) 5 rfl (by decide)) (next_end rfl)
                        have hs_208 : SH [] w w_206 [pt g_198 #[.int .i64 D.row, .int .i64 D.col, .int .u8 D.rend, .bool D.kept, .bool D.wrap, .bool D.origin, .int .i64 D.g0, .int .i64 D.g1, .int .i64 D.g2, .int .i64 D.g3, .int .i64 D.gl, .int .i64 D.gr, .int .i64 D.sg, .int .i64 C.pt, .int .i64 C.pl, .int .i64 C.pb, .int .i64 C.pr, .int .i64 C.mt, .int .i64 C.ml, .int .i64 C.mb, .int .i64 C.mr, .int .i64 C.modes, .int .i64 C.level, .bool C.eight, .bool C.stream, .int .i64 C.status, .bool C.below, .int .i64 C.page, .int .i64 C.pages] 33, pt g_171 #[.int .i64 C.row, .int .i64 C.col, .int .u8 C.rend, .bool C.kept, .bool C.wrap, .bool C.origin, .int .i64 C.g0, .int .i64 C.g1, .int .i64 C.g2, .int .i64 C.g3, .int .i64 C.gl, .int .i64 C.gr, .int .i64 C.sg, .int .i64 D.pt, .int .i64 D.pl, .int .i64 D.pb, .int .i64 D.pr, .int .i64 D.mt, .int .i64 D.ml, .int .i64 D.mb, .int .i64 D.mr, .int .i64 D.modes, .int .i64 D.level, .bool D.eight, .bool D.stream, .int .i64 D.status, .bool D.below, .int .i64 C.page, .int .i64 D.pages] 33, pt g_4 (cdA D) 33, pt g_1 (cdA C) 33, pt g_169 #[.int .i64 C.row, .int .i64 C.col, .int .u8 C.rend, .bool C.kept, .bool C.wrap, .bool C.origin, .int .i64 C.g0, .int .i64 C.g1, .int .i64 C.g2, .int .i64 C.g3, .int .i64 C.gl, .int .i64 C.gr, .int .i64 C.sg, .int .i64 D.pt, .int .i64 D.pl, .int .i64 D.pb, .int .i64 D.pr, .int .i64 D.mt, .int .i64 D.ml, .int .i64 D.mb, .int .i64 D.mr, .int .u32 D.modes, .int .i64 D.level, .bool D.eight, .bool D.stream, .int .i64 D.status, .bool D.below, .int .i64 C.page, .int .i64 D.pages] 45, pt g_196 #[.int .i64 D.row, .int .i64 D.col, .int .u8 D.rend, .bool D.kept, .bool D.wrap, .bool C.origin, .int .i64 D.g0, .int .i64 D.g1, .int .i64 D.g2, .int .i64 D.g3, .int .i64 D.gl, .int .i64 D.gr, .int .i64 D.sg, .int .i64 C.pt, .int .i64 C.pl, .int .i64 C.pb, .int .i64 C.pr, .int .i64 C.mt, .int .i64 C.ml, .int .i64 C.mb, .int .i64 C.mr, .int .u32 C.modes, .int .i64 C.level, .bool C.eight, .bool C.stream, .int .i64 C.status, .bool C.below, .int .i64 D.page, .int .i64 C.pages] 45] := hfr_205 w_206 _ fj_203 hb_207.upd hst_ (fun g hg => .inl hg)
                        refine SL.knownY (j := 3) (v := .int .i64 D.page) (show ys_210 3 = .int .i64 D.page from hF_209 3 (by decide)) (?_)
                        clear hF_209 HGR HPU hst_ hb_207 hfr_205 hpj_204
                        refine SL.v (.pointer (some ⟨g_198, 27, none⟩)) ?_
                        refine SL.storeH (i := 0) (g := g_198) (off := 27) (v := .int .i64 D.page) (L' := [pt g_198 #[.int .i64 D.row, .int .i64 D.col, .int .u8 D.rend, .bool D.kept, .bool D.wrap, .bool D.origin, .int .i64 D.g0, .int .i64 D.g1, .int .i64 D.g2, .int .i64 D.g3, .int .i64 D.gl, .int .i64 D.gr, .int .i64 D.sg, .int .i64 C.pt, .int .i64 C.pl, .int .i64 C.pb, .int .i64 C.pr, .int .i64 C.mt, .int .i64 C.ml, .int .i64 C.mb, .int .i64 C.mr, .int .i64 C.modes, .int .i64 C.level, .bool C.eight, .bool C.stream, .int .i64 C.status, .bool C.below, .int .i64 D.page, .int .i64 C.pages] 33, pt g_171 #[.int .i64 C.row, .int .i64 C.col, .int .u8 C.rend, .bool C.kept, .bool C.wrap, .bool C.origin, .int .i64 C.g0, .int .i64 C.g1, .int .i64 C.g2, .int .i64 C.g3, .int .i64 C.gl, .int .i64 C.gr, .int .i64 C.sg, .int .i64 D.pt, .int .i64 D.pl, .int .i64 D.pb, .int .i64 D.pr, .int .i64 D.mt, .int .i64 D.ml, .int .i64 D.mb, .int .i64 D.mr, .int .i64 D.modes, .int .i64 D.level, .bool D.eight, .bool D.stream, .int .i64 D.status, .bool D.below, .int .i64 C.page, .int .i64 D.pages] 33, pt g_4 (cdA D) 33, pt g_1 (cdA C) 33, pt g_169 #[.int .i64 C.row, .int .i64 C.col, .int .u8 C.rend, .bool C.kept, .bool C.wrap, .bool C.origin, .int .i64 C.g0, .int .i64 C.g1, .int .i64 C.g2, .int .i64 C.g3, .int .i64 C.gl, .int .i64 C.gr, .int .i64 C.sg, .int .i64 D.pt, .int .i64 D.pl, .int .i64 D.pb, .int .i64 D.pr, .int .i64 D.mt, .int .i64 D.ml, .int .i64 D.mb, .int .i64 D.mr, .int .u32 D.modes, .int .i64 D.level, .bool D.eight, .bool D.stream, .int .i64 D.status, .bool D.below, .int .i64 C.page, .int .i64 D.pages] 45, pt g_196 #[.int .i64 D.row, .int .i64 D.col, .int .u8 D.rend, .bool D.kept, .bool D.wrap, .bool C.origin, .int .i64 D.g0, .int .i64 D.g1, .int .i64 D.g2, .int .i64 D.g3, .int .i64 D.gl, .int .i64 D.gr, .int .i64 D.sg, .int .i64 C.pt, .int .i64 C.pl, .int .i64 C.pb, .int .i64 C.pr, .int .i64 C.mt, .int .i64 C.ml, .int .i64 C.mb, .int .i64 C.mr, .int .u32 C.modes, .int .i64 C.level, .bool C.eight, .bool C.stream, .int .i64 C.status, .bool C.below, .int .i64 D.page, .int .i64 C.pages] 45]) hs_208 rfl rfl rfl (by kernel_rfl) (by kernel_rfl) rfl (by kernel_rfl) (by kernel_rfl) rfl (by kernel_rfl) rfl (fun w_211 hs_212 => ?_)
                        refine SL.nil ?_
                        refine CW.seq ?_
                        refine CW.region ?_
                        refine SL.v (.pointer (some ⟨g_1, 0, none⟩)) ?_
                        refine SL.v (.pointer (some ⟨g_1, 5, none⟩)) ?_
                        refine SL.load (g := g_1) (off := 5) (v := .bool C.origin) rfl rfl rfl (by kernel_rfl) (hs_212.pt_at (i := 3) rfl) (by kernel_rfl) ?_
                        refine SL.v (.pointer (some ⟨g_198, 0, none⟩)) ?_
                        refine SL.v (.pointer (some ⟨g_198, 5, none⟩)) ?_
                        refine SL.storeH (i := 0) (g := g_198) (off := 5) (v := .bool C.origin) (L' := [pt g_198 #[.int .i64 D.row, .int .i64 D.col, .int .u8 D.rend, .bool D.kept, .bool D.wrap, .bool C.origin, .int .i64 D.g0, .int .i64 D.g1, .int .i64 D.g2, .int .i64 D.g3, .int .i64 D.gl, .int .i64 D.gr, .int .i64 D.sg, .int .i64 C.pt, .int .i64 C.pl, .int .i64 C.pb, .int .i64 C.pr, .int .i64 C.mt, .int .i64 C.ml, .int .i64 C.mb, .int .i64 C.mr, .int .i64 C.modes, .int .i64 C.level, .bool C.eight, .bool C.stream, .int .i64 C.status, .bool C.below, .int .i64 D.page, .int .i64 C.pages] 33, pt g_171 #[.int .i64 C.row, .int .i64 C.col, .int .u8 C.rend, .bool C.kept, .bool C.wrap, .bool C.origin, .int .i64 C.g0, .int .i64 C.g1, .int .i64 C.g2, .int .i64 C.g3, .int .i64 C.gl, .int .i64 C.gr, .int .i64 C.sg, .int .i64 D.pt, .int .i64 D.pl, .int .i64 D.pb, .int .i64 D.pr, .int .i64 D.mt, .int .i64 D.ml, .int .i64 D.mb, .int .i64 D.mr, .int .i64 D.modes, .int .i64 D.level, .bool D.eight, .bool D.stream, .int .i64 D.status, .bool D.below, .int .i64 C.page, .int .i64 D.pages] 33, pt g_4 (cdA D) 33, pt g_1 (cdA C) 33, pt g_169 #[.int .i64 C.row, .int .i64 C.col, .int .u8 C.rend, .bool C.kept, .bool C.wrap, .bool C.origin, .int .i64 C.g0, .int .i64 C.g1, .int .i64 C.g2, .int .i64 C.g3, .int .i64 C.gl, .int .i64 C.gr, .int .i64 C.sg, .int .i64 D.pt, .int .i64 D.pl, .int .i64 D.pb, .int .i64 D.pr, .int .i64 D.mt, .int .i64 D.ml, .int .i64 D.mb, .int .i64 D.mr, .int .u32 D.modes, .int .i64 D.level, .bool D.eight, .bool D.stream, .int .i64 D.status, .bool D.below, .int .i64 C.page, .int .i64 D.pages] 45, pt g_196 #[.int .i64 D.row, .int .i64 D.col, .int .u8 D.rend, .bool D.kept, .bool D.wrap, .bool C.origin, .int .i64 D.g0, .int .i64 D.g1, .int .i64 D.g2, .int .i64 D.g3, .int .i64 D.gl, .int .i64 D.gr, .int .i64 D.sg, .int .i64 C.pt, .int .i64 C.pl, .int .i64 C.pb, .int .i64 C.pr, .int .i64 C.mt, .int .i64 C.ml, .int .i64 C.mb, .int .i64 C.mr, .int .u32 C.modes, .int .i64 C.level, .bool C.eight, .bool C.stream, .int .i64 C.status, .bool C.below, .int .i64 D.page, .int .i64 C.pages] 45]) hs_212 rfl rfl rfl (by kernel_rfl) (by kernel_rfl) rfl (by kernel_rfl) (by kernel_rfl) rfl (by kernel_rfl) rfl (fun w_213 hs_214 => ?_)
                        refine SL.nil ?_
                        refine CW.seq ?_
                        have HGR : GrL [fun v _ => v = .int .i64 0, fun v _ => v = .bool true, fun v _ => v = .bool true, fun v _ => v = .agg #[.int .i64 D.row, .int .i64 D.col, .int .u8 D.rend, .bool D.kept, .bool D.wrap, .bool C.origin, .int .i64 D.g0, .int .i64 D.g1, .int .i64 D.g2, .int .i64 D.g3, .int .i64 D.gl, .int .i64 D.gr, .int .i64 D.sg, .int .i64 C.pt, .int .i64 C.pl, .int .i64 C.pb, .int .i64 C.pr, .int .i64 C.mt, .int .i64 C.ml, .int .i64 C.mb, .int .i64 C.mr, .int .u32 C.modes, .int .i64 C.level, .bool C.eight, .bool C.stream, .int .i64 C.status, .bool C.below, .int .i64 D.page, .int .i64 C.pages], fun v _ => v = .agg #[.int .i64 D.row, .int .i64 D.col, .int .u8 D.rend, .bool D.kept, .bool D.wrap, .bool C.origin, .int .i64 D.g0, .int .i64 D.g1, .int .i64 D.g2, .int .i64 D.g3, .int .i64 D.gl, .int .i64 D.gr, .int .i64 D.sg, .int .i64 C.pt, .int .i64 C.pl, .int .i64 C.pb, .int .i64 C.pr, .int .i64 C.mt, .int .i64 C.ml, .int .i64 C.mb, .int .i64 C.mr, .int .i64 C.modes, .int .i64 C.level, .bool C.eight, .bool C.stream, .int .i64 C.status, .bool C.below, .int .i64 D.page, .int .i64 C.pages], fun v _ => v = .agg #[.int .i64 D.row, .int .i64 D.col, .int .u8 D.rend, .bool D.kept, .bool D.wrap, .bool C.origin, .int .i64 D.g0, .int .i64 D.g1, .int .i64 D.g2, .int .i64 D.g3, .int .i64 D.gl, .int .i64 D.gr, .int .i64 D.sg, .int .i64 C.pt, .int .i64 C.pl, .int .i64 C.pb, .int .i64 C.pr, .int .i64 C.mt, .int .i64 C.ml, .int .i64 C.mb, .int .i64 C.mr, .int .i64 C.modes, .int .i64 C.level, .bool C.eight, .bool C.stream, .int .i64 C.status, .bool C.below, .int .i64 D.page, .int .i64 C.pages]] := ⟨fun _ _ _ _ h => h, ⟨fun _ _ _ _ h => h, ⟨fun _ _ _ _ h => h, ⟨fun _ _ _ _ h => h, ⟨fun _ _ _ _ h => h, ⟨fun _ _ _ _ h => h, trivial⟩⟩⟩⟩⟩⟩
                        refine CW.draw 6 (FW [fun v _ => v = .int .i64 0, fun v _ => v = .bool true, fun v _ => v = .bool true, fun v _ => v = .agg #[.int .i64 D.row, .int .i64 D.col, .int .u8 D.rend, .bool D.kept, .bool D.wrap, .bool C.origin, .int .i64 D.g0, .int .i64 D.g1, .int .i64 D.g2, .int .i64 D.g3, .int .i64 D.gl, .int .i64 D.gr, .int .i64 D.sg, .int .i64 C.pt, .int .i64 C.pl, .int .i64 C.pb, .int .i64 C.pr, .int .i64 C.mt, .int .i64 C.ml, .int .i64 C.mb, .int .i64 C.mr, .int .u32 C.modes, .int .i64 C.level, .bool C.eight, .bool C.stream, .int .i64 C.status, .bool C.below, .int .i64 D.page, .int .i64 C.pages], fun v _ => v = .agg #[.int .i64 D.row, .int .i64 D.col, .int .u8 D.rend, .bool D.kept, .bool D.wrap, .bool C.origin, .int .i64 D.g0, .int .i64 D.g1, .int .i64 D.g2, .int .i64 D.g3, .int .i64 D.gl, .int .i64 D.gr, .int .i64 D.sg, .int .i64 C.pt, .int .i64 C.pl, .int .i64 C.pb, .int .i64 C.pr, .int .i64 C.mt, .int .i64 C.ml, .int .i64 C.mb, .int .i64 C.mr, .int .i64 C.modes, .int .i64 C.level, .bool C.eight, .bool C.stream, .int .i64 C.status, .bool C.below, .int .i64 D.page, .int .i64 C.pages], fun v _ => v = .agg #[.int .i64 D.row, .int .i64 D.col, .int .u8 D.rend, .bool D.kept, .bool D.wrap, .bool C.origin, .int .i64 D.g0, .int .i64 D.g1, .int .i64 D.g2, .int .i64 D.g3, .int .i64 D.gl, .int .i64 D.gr, .int .i64 D.sg, .int .i64 C.pt, .int .i64 C.pl, .int .i64 C.pb, .int .i64 C.pr, .int .i64 C.mt, .int .i64 C.ml, .int .i64 C.mb, .int .i64 C.mr, .int .i64 C.modes, .int .i64 C.level, .bool C.eight, .bool C.stream, .int .i64 C.status, .bool C.below, .int .i64 D.page, .int .i64 C.pages]]) (fun W => Gr w_213 W) (by kernel_rfl) (by kernel_rfl) (by kernel_rfl) (by kernel_rfl) (by kernel_rfl) (Gr.refl _).drew ?_ ?_
                        · refine ⟨?_, ⟨?_, ⟨?_, ⟨?_, ⟨?_, ⟨?_, trivial⟩⟩⟩⟩⟩⟩
                          · intro L ys W hB hF hP K hK
                            show OpE _ _ _ W K
                            exact OpE.val (.int .i64 0) W (by kernel_rfl) (hK _ W hB rfl (fun _ _ h => h))
                          · intro L ys W hB hF hP K hK
                            show OpE _ _ _ W K
                            exact OpE.known (j := 0) (v := .int .i64 0) (hF 0 (hP.1 rfl)) (OpE.val (.bool true) W (by kernel_rfl) (hK _ W hB rfl (fun _ _ h => h)))
                          · intro L ys W hB hF hP K hK
                            show OpE _ _ _ W K
                            exact OpE.known (j := 1) (v := .bool true) (hF 1 (hP.1 rfl)) (OpE.val (.bool true) W (by kernel_rfl) (hK _ W hB rfl (fun _ _ h => h)))
                          · intro L ys W hB hF hP K hK
                            refine ⟨117, true, rfl, (show fillE _ 0 ys _ 117 = _ from (hF 2 (hP.1 rfl))), .inl ⟨rfl, ?_⟩⟩
                            exact OpE.load (g := g_196) (off := 0) (v := .agg #[.int .i64 D.row, .int .i64 D.col, .int .u8 D.rend, .bool D.kept, .bool D.wrap, .bool C.origin, .int .i64 D.g0, .int .i64 D.g1, .int .i64 D.g2, .int .i64 D.g3, .int .i64 D.gl, .int .i64 D.gr, .int .i64 D.sg, .int .i64 C.pt, .int .i64 C.pl, .int .i64 C.pb, .int .i64 C.pr, .int .i64 C.mt, .int .i64 C.ml, .int .i64 C.mb, .int .i64 C.mr, .int .u32 C.modes, .int .i64 C.level, .bool C.eight, .bool C.stream, .int .i64 C.status, .bool C.below, .int .i64 D.page, .int .i64 C.pages]) rfl (by kernel_rfl) ((hs_214.grow hB).pt_at (i := 5) rfl) (by kernel_rfl) (hK _ W hB rfl (fun _ _ h => h))
                          · intro L ys W hB hF hP K hK
                            refine ⟨117, true, rfl, (show fillE _ 0 ys _ 117 = _ from (hF 2 (hP.2.2.1 rfl))), .inl ⟨rfl, ?_⟩⟩
                            exact OpE.known (j := 3) (v := .agg #[.int .i64 D.row, .int .i64 D.col, .int .u8 D.rend, .bool D.kept, .bool D.wrap, .bool C.origin, .int .i64 D.g0, .int .i64 D.g1, .int .i64 D.g2, .int .i64 D.g3, .int .i64 D.gl, .int .i64 D.gr, .int .i64 D.sg, .int .i64 C.pt, .int .i64 C.pl, .int .i64 C.pb, .int .i64 C.pr, .int .i64 C.mt, .int .i64 C.ml, .int .i64 C.mb, .int .i64 C.mr, .int .u32 C.modes, .int .i64 C.level, .bool C.eight, .bool C.stream, .int .i64 C.status, .bool C.below, .int .i64 D.page, .int .i64 C.pages]) (hF 3 (hP.1 rfl)) (OpE.call 12 #[.agg #[.int .i64 D.row, .int .i64 D.col, .int .u8 D.rend, .bool D.kept, .bool D.wrap, .bool C.origin, .int .i64 D.g0, .int .i64 D.g1, .int .i64 D.g2, .int .i64 D.g3, .int .i64 D.gl, .int .i64 D.gr, .int .i64 D.sg, .int .i64 C.pt, .int .i64 C.pl, .int .i64 C.pb, .int .i64 C.pr, .int .i64 C.mt, .int .i64 C.ml, .int .i64 C.mb, .int .i64 C.mr, .int .u32 C.modes, .int .i64 C.level, .bool C.eight, .bool C.stream, .int .i64 C.status, .bool C.below, .int .i64 D.page, .int .i64 C.pages]] W _ (by kernel_rfl) (told19 (allC C D) W haok.modes) (fun x w' hx => by obtain ⟨rfl, hg⟩ := hx; exact ⟨_, rfl, hK _ w' (hB.trans hg) rfl (fun _ _ h => FW.gr HGR hg h)⟩))
                          · intro L ys W hB hF hP K hK
                            refine ⟨117, true, rfl, (show fillE _ 0 ys _ 117 = _ from (hF 2 (hP.1 rfl))), .inl ⟨rfl, ?_⟩⟩
                            exact OpE.load (g := g_198) (off := 0) (v := .agg #[.int .i64 D.row, .int .i64 D.col, .int .u8 D.rend, .bool D.kept, .bool D.wrap, .bool C.origin, .int .i64 D.g0, .int .i64 D.g1, .int .i64 D.g2, .int .i64 D.g3, .int .i64 D.gl, .int .i64 D.gr, .int .i64 D.sg, .int .i64 C.pt, .int .i64 C.pl, .int .i64 C.pb, .int .i64 C.pr, .int .i64 C.mt, .int .i64 C.ml, .int .i64 C.mb, .int .i64 C.mr, .int .i64 C.modes, .int .i64 C.level, .bool C.eight, .bool C.stream, .int .i64 C.status, .bool C.below, .int .i64 D.page, .int .i64 C.pages]) rfl (by kernel_rfl) ((hs_214.grow hB).pt_at (i := 0) rfl) (by kernel_rfl) (hK _ W hB rfl (fun _ _ h => h))
                        · intro ys_218 w_215 hs_216 hF_217
                          have hg_219 := hs_216
                          have hs_216 : SH [] w w_215 [pt g_198 #[.int .i64 D.row, .int .i64 D.col, .int .u8 D.rend, .bool D.kept, .bool D.wrap, .bool C.origin, .int .i64 D.g0, .int .i64 D.g1, .int .i64 D.g2, .int .i64 D.g3, .int .i64 D.gl, .int .i64 D.gr, .int .i64 D.sg, .int .i64 C.pt, .int .i64 C.pl, .int .i64 C.pb, .int .i64 C.pr, .int .i64 C.mt, .int .i64 C.ml, .int .i64 C.mb, .int .i64 C.mr, .int .i64 C.modes, .int .i64 C.level, .bool C.eight, .bool C.stream, .int .i64 C.status, .bool C.below, .int .i64 D.page, .int .i64 C.pages] 33, pt g_171 #[.int .i64 C.row, .int .i64 C.col, .int .u8 C.rend, .bool C.kept, .bool C.wrap, .bool C.origin, .int .i64 C.g0, .int .i64 C.g1, .int .i64 C.g2, .int .i64 C.g3, .int .i64 C.gl, .int .i64 C.gr, .int .i64 C.sg, .int .i64 D.pt, .int .i64 D.pl, .int .i64 D.pb, .int .i64 D.pr, .int .i64 D.mt, .int .i64 D.ml, .int .i64 D.mb, .int .i64 D.mr, .int .i64 D.modes, .int .i64 D.level, .bool D.eight, .bool D.stream, .int .i64 D.status, .bool D.below, .int .i64 C.page, .int .i64 D.pages] 33, pt g_4 (cdA D) 33, pt g_1 (cdA C) 33, pt g_169 #[.int .i64 C.row, .int .i64 C.col, .int .u8 C.rend, .bool C.kept, .bool C.wrap, .bool C.origin, .int .i64 C.g0, .int .i64 C.g1, .int .i64 C.g2, .int .i64 C.g3, .int .i64 C.gl, .int .i64 C.gr, .int .i64 C.sg, .int .i64 D.pt, .int .i64 D.pl, .int .i64 D.pb, .int .i64 D.pr, .int .i64 D.mt, .int .i64 D.ml, .int .i64 D.mb, .int .i64 D.mr, .int .u32 D.modes, .int .i64 D.level, .bool D.eight, .bool D.stream, .int .i64 D.status, .bool D.below, .int .i64 C.page, .int .i64 D.pages] 45, pt g_196 #[.int .i64 D.row, .int .i64 D.col, .int .u8 D.rend, .bool D.kept, .bool D.wrap, .bool C.origin, .int .i64 D.g0, .int .i64 D.g1, .int .i64 D.g2, .int .i64 D.g3, .int .i64 D.gl, .int .i64 D.gr, .int .i64 D.sg, .int .i64 C.pt, .int .i64 C.pl, .int .i64 C.pb, .int .i64 C.pr, .int .i64 C.mt, .int .i64 C.ml, .int .i64 C.mb, .int .i64 C.mr, .int .u32 C.modes, .int .i64 C.level, .bool C.eight, .bool C.stream, .int .i64 C.status, .bool C.below, .int .i64 D.page, .int .i64 C.pages] 45] := hs_214.grow hg_219
                          refine SL.knownY (j := 2) (v := .bool true) (show ys_218 2 = .bool true from hF_217 2 (by decide)) (SL.knownY (j := 4) (v := .agg #[.int .i64 D.row, .int .i64 D.col, .int .u8 D.rend, .bool D.kept, .bool D.wrap, .bool C.origin, .int .i64 D.g0, .int .i64 D.g1, .int .i64 D.g2, .int .i64 D.g3, .int .i64 D.gl, .int .i64 D.gr, .int .i64 D.sg, .int .i64 C.pt, .int .i64 C.pl, .int .i64 C.pb, .int .i64 C.pr, .int .i64 C.mt, .int .i64 C.ml, .int .i64 C.mb, .int .i64 C.mr, .int .i64 C.modes, .int .i64 C.level, .bool C.eight, .bool C.stream, .int .i64 C.status, .bool C.below, .int .i64 D.page, .int .i64 C.pages]) (show ys_218 4 = .agg #[.int .i64 D.row, .int .i64 D.col, .int .u8 D.rend, .bool D.kept, .bool D.wrap, .bool C.origin, .int .i64 D.g0, .int .i64 D.g1, .int .i64 D.g2, .int .i64 D.g3, .int .i64 D.gl, .int .i64 D.gr, .int .i64 D.sg, .int .i64 C.pt, .int .i64 C.pl, .int .i64 C.pb, .int .i64 C.pr, .int .i64 C.mt, .int .i64 C.ml, .int .i64 C.mb, .int .i64 C.mr, .int .i64 C.modes, .int .i64 C.level, .bool C.eight, .bool C.stream, .int .i64 C.status, .bool C.below, .int .i64 D.page, .int .i64 C.pages] from hF_217 4 (by decide)) (SL.knownY (j := 5) (v := .agg #[.int .i64 D.row, .int .i64 D.col, .int .u8 D.rend, .bool D.kept, .bool D.wrap, .bool C.origin, .int .i64 D.g0, .int .i64 D.g1, .int .i64 D.g2, .int .i64 D.g3, .int .i64 D.gl, .int .i64 D.gr, .int .i64 D.sg, .int .i64 C.pt, .int .i64 C.pl, .int .i64 C.pb, .int .i64 C.pr, .int .i64 C.mt, .int .i64 C.ml, .int .i64 C.mb, .int .i64 C.mr, .int .i64 C.modes, .int .i64 C.level, .bool C.eight, .bool C.stream, .int .i64 C.status, .bool C.below, .int .i64 D.page, .int .i64 C.pages]) (show ys_218 5 = .agg #[.int .i64 D.row, .int .i64 D.col, .int .u8 D.rend, .bool D.kept, .bool D.wrap, .bool C.origin, .int .i64 D.g0, .int .i64 D.g1, .int .i64 D.g2, .int .i64 D.g3, .int .i64 D.gl, .int .i64 D.gr, .int .i64 D.sg, .int .i64 C.pt, .int .i64 C.pl, .int .i64 C.pb, .int .i64 C.pr, .int .i64 C.mt, .int .i64 C.ml, .int .i64 C.mb, .int .i64 C.mr, .int .i64 C.modes, .int .i64 C.level, .bool C.eight, .bool C.stream, .int .i64 C.status, .bool C.below, .int .i64 D.page, .int .i64 C.pages] from hF_217 5 (by decide)) (?_)))
                          clear hF_217 HGR
                          refine SL.go ?_
                          refine SL.val (v := .bool true) (w' := w_215) rfl rfl (run_eql_op (xs := #[.int .i64 D.row, .int .i64 D.col, .int .u8 D.rend, .bool D.kept, .bool D.wrap, .bool C.origin, .int .i64 D.g0, .int .i64 D.g1, .int .i64 D.g2, .int .i64 D.g3, .int .i64 D.gl, .int .i64 D.gr, .int .i64 D.sg, .int .i64 C.pt, .int .i64 C.pl, .int .i64 C.pb, .int .i64 C.pr, .int .i64 C.mt, .int .i64 C.ml, .int .i64 C.mb, .int .i64 C.mr, .int .i64 C.modes, .int .i64 C.level, .bool C.eight, .bool C.stream, .int .i64 C.status, .bool C.below, .int .i64 D.page, .int .i64 C.pages]) (ys := #[.int .i64 D.row, .int .i64 D.col, .int .u8 D.rend, .bool D.kept, .bool D.wrap, .bool C.origin, .int .i64 D.g0, .int .i64 D.g1, .int .i64 D.g2, .int .i64 D.g3, .int .i64 D.gl, .int .i64 D.gr, .int .i64 D.sg, .int .i64 C.pt, .int .i64 C.pl, .int .i64 C.pb, .int .i64 C.pr, .int .i64 C.mt, .int .i64 C.ml, .int .i64 C.mb, .int .i64 C.mr, .int .i64 C.modes, .int .i64 C.level, .bool C.eight, .bool C.stream, .int .i64 C.status, .bool C.below, .int .i64 D.page, .int .i64 C.pages]) (b := true) rfl (by kernel_rfl) (by kernel_rfl) (by kernel_rfl) (run_eql_flat (x := .agg #[.int .i64 D.row, .int .i64 D.col, .int .u8 D.rend, .bool D.kept, .bool D.wrap, .bool C.origin, .int .i64 D.g0, .int .i64 D.g1, .int .i64 D.g2, .int .i64 D.g3, .int .i64 D.gl, .int .i64 D.gr, .int .i64 D.sg, .int .i64 C.pt, .int .i64 C.pl, .int .i64 C.pb, .int .i64 C.pr, .int .i64 C.mt, .int .i64 C.ml, .int .i64 C.mb, .int .i64 C.mr, .int .i64 C.modes, .int .i64 C.level, .bool C.eight, .bool C.stream, .int .i64 C.status, .bool C.below, .int .i64 D.page, .int .i64 C.pages]) (y := .agg #[.int .i64 D.row, .int .i64 D.col, .int .u8 D.rend, .bool D.kept, .bool D.wrap, .bool C.origin, .int .i64 D.g0, .int .i64 D.g1, .int .i64 D.g2, .int .i64 D.g3, .int .i64 D.gl, .int .i64 D.gr, .int .i64 D.sg, .int .i64 C.pt, .int .i64 C.pl, .int .i64 C.pb, .int .i64 C.pr, .int .i64 C.mt, .int .i64 C.ml, .int .i64 C.mb, .int .i64 C.mr, .int .i64 C.modes, .int .i64 C.level, .bool C.eight, .bool C.stream, .int .i64 C.status, .bool C.below, .int .i64 D.page, .int .i64 C.pages]) (b := true) (m := 6) (lx := [.int .i64 D.row, .int .i64 D.col, .int .u8 D.rend, .bool D.kept, .bool D.wrap, .bool C.origin, .int .i64 D.g0, .int .i64 D.g1, .int .i64 D.g2, .int .i64 D.g3, .int .i64 D.gl, .int .i64 D.gr, .int .i64 D.sg, .int .i64 C.pt, .int .i64 C.pl, .int .i64 C.pb, .int .i64 C.pr, .int .i64 C.mt, .int .i64 C.ml, .int .i64 C.mb, .int .i64 C.mr, .int .i64 C.modes, .int .i64 C.level, .bool C.eight, .bool C.stream, .int .i64 C.status, .bool C.below, .int .i64 D.page, .int .i64 C.pages]) (ly := [.int .i64 D.row, .int .i64 D.col, .int .u8 D.rend, .bool D.kept, .bool D.wrap, .bool C.origin, .int .i64 D.g0, .int .i64 D.g1, .int .i64 D.g2, .int .i64 D.g3, .int .i64 D.gl, .int .i64 D.gr, .int .i64 D.sg, .int .i64 C.pt, .int .i64 C.pl, .int .i64 C.pb, .int .i64 C.pr, .int .i64 C.mt, .int .i64 C.ml, .int .i64 C.mb, .int .i64 C.mr, .int .i64 C.modes, .int .i64 C.level, .bool C.eight, .bool C.stream, .int .i64 C.status, .bool C.below, .int .i64 D.page, .int .i64 C.pages]) (by kernel_rfl) (by kernel_rfl) (by kernel_rfl) (by kernel_rfl) (by kernel_rfl) (by kernel_rfl) (Cor.Ok.lits haok) (Cor.Ok.lits haok) ⟨fun _ => rfl, fun _ => rfl⟩)) ?_
                          refine SL.v (.bool true) ?_
                          refine SL.v (.bool true) ?_
                          refine SL.nil ?_
                          refine CW.ret ?_
                          repeat with_reducible first | refine PThen.ret ?_ | refine PBlock.ret ?_
                          refine PRet.tmp (t := 4) (v := .bool true) rfl rfl (by kernel_rfl) ?_
                          exact ⟨rfl, hs_216.gr⟩
theorem tab_Back {w : World} (h : laidMetH Tryz.prog Rows.stateBackRow.laid w) : tabT w := by
  unfold Rows.stateBackRow at h
  rw [MakeChecks.laidMetH_plain _ _ _ (by kernel_rfl)] at h
  exact tabT_met19 (laidMet_tail2 (laidMet_tail2 h))
theorem back_law (c d : Cor) (w : World) (h0 : c.In) (h1 : d.In) (hlaid : laidMetH Tryz.prog Rows.stateBackRow.laid w) (hsh : w.ShapedOpen Tryz.prog) :
    Calls Tryz.prog 4 #[c.d, d.d] w fun e w' => e = .returned (.bool true) ∧ Gr w w' := by
  have hT := tab_Back hlaid
  have hM := MaxOkS.of hsh
  cases hsc : smallZ c with
  | false => exact back_no1 c d c d w hT hM hsc
  | true =>
    cases hsd : smallZ d with
    | false => exact back_no2 c d c d w hT hM hsc hsd
    | true =>
      have hG := good_cap (h0.toOk hsc) hsc
      exact back_yes c d _ _ w hT hM (h0.toOk hsc) (h1.toOk hsd) hsc hsd rfl rfl hG (twin_cap hG)
end Go.Proofs.YtfkecgkfcldffaaGreatDoor
