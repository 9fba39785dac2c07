/-
  The document's report of a state, walked (gen_stg.py SEAT h).
-/
import Derived.Test.YtfkecgkfcldffaaDoorZStG
namespace Go.Proofs.YtfkecgkfcldffaaDoor
set_option linter.unusedSimpArgs false
set_option linter.unusedVariables false
open Go.RowKit
set_option linter.unusedVariables false

set_option maxRecDepth 100000 in
set_option maxHeartbeats 4000000 in
theorem rrep_any (c : Cor) (w : World) (hok : c.Ok) (hT : tabT w) (hn : ∀ n ∈ c.clean.nums, 0 ≤ n ∧ n ≤ 65535) : Calls Tryd.prog 17 #[.agg (cdA c)] w fun e w' => e = .returned (.string (strOf (fmtGo c.clean.nums))) ∧ Gr w w' := by
  refine calls_sx (n := 26) (args := [.agg (cdA c)]) Tryd.func17 rfl rfl rfl ?_
  have hs0 := Bk.init w
  refine CW.seq ?_
  refine CW.region ?_
  refine SL.new (mk := fun g => .pointer (some ⟨g, 0, none⟩)) (C := (cdA c)) (T := 33) hs0 rfl rfl (by kernel_rfl) (fun g_1 w_2 hs_3 => ?_)
  have hs_3 : Bk w w_2 [(g_1, .cells (cdA c) 33 (0, 0))] := hs_3
  refine SL.v (.string ⟨#[]⟩) ?_
  refine SL.nil ?_
  refine CW.seq ?_
  refine CW.region ?_
  refine SL.v (.string ⟨#[]⟩) ?_
  refine SL.nil ?_
  refine CW.seq ?_
  refine CW.region ?_
  refine SL.load (g := g_1) (off := 0) (v := .agg (cdA c)) rfl rfl rfl (by kernel_rfl) (hs_3.all 0 g_1 _ rfl) (by kernel_rfl) ?_
  refine SL.call (f := 52) (args := #[.agg (cdA c)]) (w1 := w_2) rfl rfl (by kernel_rfl) (rnums_any c w_2 hok) ?_
  rintro x w_5 ⟨g_4, rfl, hb_8, hge_9, hc_6⟩
  refine ⟨.slice (some ⟨g_4, 0, none⟩) 12 12, rfl, ?_⟩
  have hs_7 := (hs_3.grow hc_6).add hb_8 (Nat.le_trans hs_3.gr.size hge_9) (hs_3.new_ne hge_9)
  have hs_7 : Bk w w_5 [(g_1, .cells (cdA c) 33 (0, 0)), (g_4, .cells #[.int .i64 c.clean.level, .int .i64 (flagZ c.clean.eight), .int .i64 (c.clean.modes / 4096), .int .i64 (c.clean.modes % 4096), .int .i64 (flagZ c.clean.stream), .int .i64 c.clean.status, .int .i64 (flagZ c.clean.below), .int .i64 c.clean.mt, .int .i64 c.clean.ml, .int .i64 c.clean.mb, .int .i64 c.clean.mr, .int .i64 (flagZ c.clean.origin)] 3 (0, 0))] := hs_7
  refine SL.v (.slice (some ⟨g_4, 0, none⟩) 12 12) ?_
  refine SL.nil ?_
  refine CW.seq ?_
  refine CW.seq ?_
  refine CW.region ?_
  refine SL.v (.int .i64 0) ?_
  refine SL.nil ?_
  refine CW.block ?_
  refine CW.loopN 13 ?_
  refine CR.more ?_
  refine CW.seq ?_
  refine CW.seq ?_
  refine CW.region ?_
  refine SL.v (.int .i64 0) ?_
  refine SL.v (.slice (some ⟨g_4, 0, none⟩) 12 12) ?_
  refine SL.val (v := .int .i64 12) (w' := w_5) rfl rfl (by kernel_rfl) ?_
  refine SL.v (.bool true) ?_
  refine SL.nil ?_
  refine CW.cond_true (by kernel_rfl) ?_
  refine CW.skip ?_
  refine CW.seq ?_
  refine CW.block ?_
  refine CW.seq ?_
  refine CW.seq ?_
  refine CW.region ?_
  refine SL.v (.int .i64 0) ?_
  refine SL.v (.bool false) ?_
  refine SL.nil ?_
  refine CW.cond_false (by kernel_rfl) ?_
  refine CW.skip ?_
  refine CW.region ?_
  refine SL.v (.string ⟨#[]⟩) ?_
  refine SL.v (.slice (some ⟨g_4, 0, none⟩) 12 12) ?_
  refine SL.v (.int .i64 0) ?_
  refine SL.v (.pointer (some ⟨g_4, 0, none⟩)) ?_
  refine SL.load (g := g_4) (off := 0) (v := .int .i64 c.clean.level) rfl rfl rfl (by kernel_rfl) (hs_7.all 1 g_4 _ rfl) (by kernel_rfl) ?_
  refine SL.call (f := 53) (args := #[.int .i64 c.clean.level]) (w1 := w_5) rfl rfl (by kernel_rfl) (dec_d c.clean.level w_5 (hn _ (by simp [Cor.nums]))) ?_
  rintro x w_10 ⟨rfl, hc_11⟩
  refine ⟨.string (dstr c.clean.level), rfl, ?_⟩
  have hs_12 := hs_7.grow hc_11
  refine SL.cat (a := ⟨#[]⟩) (b := dstr c.clean.level) (p := 0) (q := 7) (r := 7) rfl rfl rfl (by kernel_rfl) (by kernel_rfl) (show (⟨#[]⟩ : ByteArray).size ≤ 0 from Nat.le_refl 0) (dstr_size c.clean.level) (by kernel_rfl) (by kernel_rfl) rfl (fun s_13 he_15 hz_14 => ?_)
  refine SL.v (.string s_13) ?_
  refine SL.nil ?_
  refine CW.region ?_
  refine SL.v (.int .i64 0) ?_
  refine SL.v (.int .i64 1) ?_
  refine SL.v (.int .i64 1) ?_
  refine SL.nil ?_
  refine CR.fresh (fun e9 => e9 0 = .agg (cdA c) ∧ e9 1 = .pointer (some ⟨g_1, 0, none⟩) ∧ e9 2 = .string ⟨#[]⟩ ∧ e9 3 = .string s_13 ∧ e9 4 = .slice (some ⟨g_4, 0, none⟩) 12 12 ∧ e9 5 = .int .i64 1 ∧ e9 6 = .agg (cdA c) ∧ e9 7 = .slice (some ⟨g_4, 0, none⟩) 12 12) ⟨(by kernel_rfl), (by kernel_rfl), (by kernel_rfl), (by kernel_rfl), (by kernel_rfl), (by kernel_rfl), (by kernel_rfl), (by kernel_rfl)⟩ ?_
  rintro e_16 ⟨hv_18, hv_19, hv_20, hv_21, hv_22, hv_23, hv_24, hv_25⟩
  obtain ⟨e_17, rfl⟩ : ∃ e_17, e_16 = put1 (put1 (put1 (put1 (put1 (put1 (put1 (put1 e_17 0 (.agg (cdA c))) 1 (.pointer (some ⟨g_1, 0, none⟩))) 2 (.string ⟨#[]⟩)) 3 (.string s_13)) 4 (.slice (some ⟨g_4, 0, none⟩) 12 12)) 5 (.int .i64 1)) 6 (.agg (cdA c))) 7 (.slice (some ⟨g_4, 0, none⟩) 12 12) := ⟨e_16, (put_self hv_25).trans (congrArg (fun z => put1 z 7 (.slice (some ⟨g_4, 0, none⟩) 12 12)) ((put_self hv_24).trans (congrArg (fun z => put1 z 6 (.agg (cdA c))) ((put_self hv_23).trans (congrArg (fun z => put1 z 5 (.int .i64 1)) ((put_self hv_22).trans (congrArg (fun z => put1 z 4 (.slice (some ⟨g_4, 0, none⟩) 12 12)) ((put_self hv_21).trans (congrArg (fun z => put1 z 3 (.string s_13)) ((put_self hv_20).trans (congrArg (fun z => put1 z 2 (.string ⟨#[]⟩)) ((put_self hv_19).trans (congrArg (fun z => put1 z 1 (.pointer (some ⟨g_1, 0, none⟩))) (put_self hv_18))))))))))))))⟩
  clear hv_18 hv_19 hv_20 hv_21 hv_22 hv_23 hv_24 hv_25
  refine CR.more ?_
  refine CW.seq ?_
  refine CW.seq ?_
  refine CW.region ?_
  refine SL.v (.int .i64 1) ?_
  refine SL.v (.slice (some ⟨g_4, 0, none⟩) 12 12) ?_
  refine SL.val (v := .int .i64 12) (w' := w_10) rfl rfl (by kernel_rfl) ?_
  refine SL.v (.bool true) ?_
  refine SL.nil ?_
  refine CW.cond_true (by kernel_rfl) ?_
  refine CW.skip ?_
  refine CW.seq ?_
  refine CW.block ?_
  refine CW.seq ?_
  refine CW.seq ?_
  refine CW.region ?_
  refine SL.v (.int .i64 1) ?_
  refine SL.v (.bool true) ?_
  refine SL.nil ?_
  refine CW.cond_true (by kernel_rfl) ?_
  refine CW.region ?_
  refine SL.v (.string s_13) ?_
  refine SL.cat (a := s_13) (b := ⟨#[59]⟩) (p := 7) (q := 1) (r := 8) rfl rfl rfl (by kernel_rfl) (by kernel_rfl) hz_14 (show (⟨#[59]⟩ : ByteArray).size ≤ 1 from Nat.le_refl 1) (by kernel_rfl) (by kernel_rfl) rfl (fun s_26 he_28 hz_27 => ?_)
  refine SL.v (.string s_26) ?_
  refine SL.nil ?_
  refine CW.region ?_
  refine SL.v (.string s_26) ?_
  refine SL.v (.slice (some ⟨g_4, 0, none⟩) 12 12) ?_
  refine SL.v (.int .i64 1) ?_
  refine SL.v (.pointer (some ⟨g_4, 1, none⟩)) ?_
  refine SL.load (g := g_4) (off := 1) (v := .int .i64 (flagZ c.clean.eight)) rfl rfl rfl (by kernel_rfl) (hs_12.all 1 g_4 _ rfl) (by kernel_rfl) ?_
  refine SL.call (f := 53) (args := #[.int .i64 (flagZ c.clean.eight)]) (w1 := w_10) rfl rfl (by kernel_rfl) (dec_d (flagZ c.clean.eight) w_10 (hn _ (by simp [Cor.nums]))) ?_
  rintro x w_29 ⟨rfl, hc_30⟩
  refine ⟨.string (dstr (flagZ c.clean.eight)), rfl, ?_⟩
  have hs_31 := hs_12.grow hc_30
  refine SL.cat (a := s_26) (b := dstr (flagZ c.clean.eight)) (p := 8) (q := 7) (r := 15) rfl rfl rfl (by kernel_rfl) (by kernel_rfl) hz_27 (dstr_size (flagZ c.clean.eight)) (by kernel_rfl) (by kernel_rfl) rfl (fun s_32 he_34 hz_33 => ?_)
  refine SL.v (.string s_32) ?_
  refine SL.nil ?_
  refine CW.region ?_
  refine SL.v (.int .i64 1) ?_
  refine SL.v (.int .i64 2) ?_
  refine SL.v (.int .i64 2) ?_
  refine SL.nil ?_
  refine CR.fresh (fun e9 => e9 0 = .agg (cdA c) ∧ e9 1 = .pointer (some ⟨g_1, 0, none⟩) ∧ e9 2 = .string ⟨#[]⟩ ∧ e9 3 = .string s_32 ∧ e9 4 = .slice (some ⟨g_4, 0, none⟩) 12 12 ∧ e9 5 = .int .i64 2 ∧ e9 6 = .agg (cdA c) ∧ e9 7 = .slice (some ⟨g_4, 0, none⟩) 12 12) ⟨(by kernel_rfl), (by kernel_rfl), (by kernel_rfl), (by kernel_rfl), (by kernel_rfl), (by kernel_rfl), (by kernel_rfl), (by kernel_rfl)⟩ ?_
  rintro e_35 ⟨hv_37, hv_38, hv_39, hv_40, hv_41, hv_42, hv_43, hv_44⟩
  obtain ⟨e_36, rfl⟩ : ∃ e_36, e_35 = put1 (put1 (put1 (put1 (put1 (put1 (put1 (put1 e_36 0 (.agg (cdA c))) 1 (.pointer (some ⟨g_1, 0, none⟩))) 2 (.string ⟨#[]⟩)) 3 (.string s_32)) 4 (.slice (some ⟨g_4, 0, none⟩) 12 12)) 5 (.int .i64 2)) 6 (.agg (cdA c))) 7 (.slice (some ⟨g_4, 0, none⟩) 12 12) := ⟨e_35, (put_self hv_44).trans (congrArg (fun z => put1 z 7 (.slice (some ⟨g_4, 0, none⟩) 12 12)) ((put_self hv_43).trans (congrArg (fun z => put1 z 6 (.agg (cdA c))) ((put_self hv_42).trans (congrArg (fun z => put1 z 5 (.int .i64 2)) ((put_self hv_41).trans (congrArg (fun z => put1 z 4 (.slice (some ⟨g_4, 0, none⟩) 12 12)) ((put_self hv_40).trans (congrArg (fun z => put1 z 3 (.string s_32)) ((put_self hv_39).trans (congrArg (fun z => put1 z 2 (.string ⟨#[]⟩)) ((put_self hv_38).trans (congrArg (fun z => put1 z 1 (.pointer (some ⟨g_1, 0, none⟩))) (put_self hv_37))))))))))))))⟩
  clear hv_37 hv_38 hv_39 hv_40 hv_41 hv_42 hv_43 hv_44
  refine CR.more ?_
  refine CW.seq ?_
  refine CW.seq ?_
  refine CW.region ?_
  refine SL.v (.int .i64 2) ?_
  refine SL.v (.slice (some ⟨g_4, 0, none⟩) 12 12) ?_
  refine SL.val (v := .int .i64 12) (w' := w_29) rfl rfl (by kernel_rfl) ?_
  refine SL.v (.bool true) ?_
  refine SL.nil ?_
  refine CW.cond_true (by kernel_rfl) ?_
  refine CW.skip ?_
  refine CW.seq ?_
  refine CW.block ?_
  refine CW.seq ?_
  refine CW.seq ?_
  refine CW.region ?_
  refine SL.v (.int .i64 2) ?_
  refine SL.v (.bool true) ?_
  refine SL.nil ?_
  refine CW.cond_true (by kernel_rfl) ?_
  refine CW.region ?_
  refine SL.v (.string s_32) ?_
  refine SL.cat (a := s_32) (b := ⟨#[59]⟩) (p := 15) (q := 1) (r := 16) rfl rfl rfl (by kernel_rfl) (by kernel_rfl) hz_33 (show (⟨#[59]⟩ : ByteArray).size ≤ 1 from Nat.le_refl 1) (by kernel_rfl) (by kernel_rfl) rfl (fun s_45 he_47 hz_46 => ?_)
  refine SL.v (.string s_45) ?_
  refine SL.nil ?_
  refine CW.region ?_
  refine SL.v (.string s_45) ?_
  refine SL.v (.slice (some ⟨g_4, 0, none⟩) 12 12) ?_
  refine SL.v (.int .i64 2) ?_
  refine SL.v (.pointer (some ⟨g_4, 2, none⟩)) ?_
  refine SL.load (g := g_4) (off := 2) (v := .int .i64 (c.clean.modes / 4096)) rfl rfl rfl (by kernel_rfl) (hs_31.all 1 g_4 _ rfl) (by kernel_rfl) ?_
  refine SL.call (f := 53) (args := #[.int .i64 (c.clean.modes / 4096)]) (w1 := w_29) rfl rfl (by kernel_rfl) (dec_d (c.clean.modes / 4096) w_29 (hn _ (by simp [Cor.nums]))) ?_
  rintro x w_48 ⟨rfl, hc_49⟩
  refine ⟨.string (dstr (c.clean.modes / 4096)), rfl, ?_⟩
  have hs_50 := hs_31.grow hc_49
  refine SL.cat (a := s_45) (b := dstr (c.clean.modes / 4096)) (p := 16) (q := 7) (r := 23) rfl rfl rfl (by kernel_rfl) (by kernel_rfl) hz_46 (dstr_size (c.clean.modes / 4096)) (by kernel_rfl) (by kernel_rfl) rfl (fun s_51 he_53 hz_52 => ?_)
  refine SL.v (.string s_51) ?_
  refine SL.nil ?_
  refine CW.region ?_
  refine SL.v (.int .i64 2) ?_
  refine SL.v (.int .i64 3) ?_
  refine SL.v (.int .i64 3) ?_
  refine SL.nil ?_
  refine CR.fresh (fun e9 => e9 0 = .agg (cdA c) ∧ e9 1 = .pointer (some ⟨g_1, 0, none⟩) ∧ e9 2 = .string ⟨#[]⟩ ∧ e9 3 = .string s_51 ∧ e9 4 = .slice (some ⟨g_4, 0, none⟩) 12 12 ∧ e9 5 = .int .i64 3 ∧ e9 6 = .agg (cdA c) ∧ e9 7 = .slice (some ⟨g_4, 0, none⟩) 12 12) ⟨(by kernel_rfl), (by kernel_rfl), (by kernel_rfl), (by kernel_rfl), (by kernel_rfl), (by kernel_rfl), (by kernel_rfl), (by kernel_rfl)⟩ ?_
  rintro e_54 ⟨hv_56, hv_57, hv_58, hv_59, hv_60, hv_61, hv_62, hv_63⟩
  obtain ⟨e_55, rfl⟩ : ∃ e_55, e_54 = put1 (put1 (put1 (put1 (put1 (put1 (put1 (put1 e_55 0 (.agg (cdA c))) 1 (.pointer (some ⟨g_1, 0, none⟩))) 2 (.string ⟨#[]⟩)) 3 (.string s_51)) 4 (.slice (some ⟨g_4, 0, none⟩) 12 12)) 5 (.int .i64 3)) 6 (.agg (cdA c))) 7 (.slice (some ⟨g_4, 0, none⟩) 12 12) := ⟨e_54, (put_self hv_63).trans (congrArg (fun z => put1 z 7 (.slice (some ⟨g_4, 0, none⟩) 12 12)) ((put_self hv_62).trans (congrArg (fun z => put1 z 6 (.agg (cdA c))) ((put_self hv_61).trans (congrArg (fun z => put1 z 5 (.int .i64 3)) ((put_self hv_60).trans (congrArg (fun z => put1 z 4 (.slice (some ⟨g_4, 0, none⟩) 12 12)) ((put_self hv_59).trans (congrArg (fun z => put1 z 3 (.string s_51)) ((put_self hv_58).trans (congrArg (fun z => put1 z 2 (.string ⟨#[]⟩)) ((put_self hv_57).trans (congrArg (fun z => put1 z 1 (.pointer (some ⟨g_1, 0, none⟩))) (put_self hv_56))))))))))))))⟩
  clear hv_56 hv_57 hv_58 hv_59 hv_60 hv_61 hv_62 hv_63
  refine CR.more ?_
  refine CW.seq ?_
  refine CW.seq ?_
  refine CW.region ?_
  refine SL.v (.int .i64 3) ?_
  refine SL.v (.slice (some ⟨g_4, 0, none⟩) 12 12) ?_
  refine SL.val (v := .int .i64 12) (w' := w_48) rfl rfl (by kernel_rfl) ?_
  refine SL.v (.bool true) ?_
  refine SL.nil ?_
  refine CW.cond_true (by kernel_rfl) ?_
  refine CW.skip ?_
  refine CW.seq ?_
  refine CW.block ?_
  refine CW.seq ?_
  refine CW.seq ?_
  refine CW.region ?_
  refine SL.v (.int .i64 3) ?_
  refine SL.v (.bool true) ?_
  refine SL.nil ?_
  refine CW.cond_true (by kernel_rfl) ?_
  refine CW.region ?_
  refine SL.v (.string s_51) ?_
  refine SL.cat (a := s_51) (b := ⟨#[59]⟩) (p := 23) (q := 1) (r := 24) rfl rfl rfl (by kernel_rfl) (by kernel_rfl) hz_52 (show (⟨#[59]⟩ : ByteArray).size ≤ 1 from Nat.le_refl 1) (by kernel_rfl) (by kernel_rfl) rfl (fun s_64 he_66 hz_65 => ?_)
  refine SL.v (.string s_64) ?_
  refine SL.nil ?_
  refine CW.region ?_
  refine SL.v (.string s_64) ?_
  refine SL.v (.slice (some ⟨g_4, 0, none⟩) 12 12) ?_
  refine SL.v (.int .i64 3) ?_
  refine SL.v (.pointer (some ⟨g_4, 3, none⟩)) ?_
  refine SL.load (g := g_4) (off := 3) (v := .int .i64 (c.clean.modes % 4096)) rfl rfl rfl (by kernel_rfl) (hs_50.all 1 g_4 _ rfl) (by kernel_rfl) ?_
  refine SL.call (f := 53) (args := #[.int .i64 (c.clean.modes % 4096)]) (w1 := w_48) rfl rfl (by kernel_rfl) (dec_d (c.clean.modes % 4096) w_48 (hn _ (by simp [Cor.nums]))) ?_
  rintro x w_67 ⟨rfl, hc_68⟩
  refine ⟨.string (dstr (c.clean.modes % 4096)), rfl, ?_⟩
  have hs_69 := hs_50.grow hc_68
  refine SL.cat (a := s_64) (b := dstr (c.clean.modes % 4096)) (p := 24) (q := 7) (r := 31) rfl rfl rfl (by kernel_rfl) (by kernel_rfl) hz_65 (dstr_size (c.clean.modes % 4096)) (by kernel_rfl) (by kernel_rfl) rfl (fun s_70 he_72 hz_71 => ?_)
  refine SL.v (.string s_70) ?_
  refine SL.nil ?_
  refine CW.region ?_
  refine SL.v (.int .i64 3) ?_
  refine SL.v (.int .i64 4) ?_
  refine SL.v (.int .i64 4) ?_
  refine SL.nil ?_
  refine CR.fresh (fun e9 => e9 0 = .agg (cdA c) ∧ e9 1 = .pointer (some ⟨g_1, 0, none⟩) ∧ e9 2 = .string ⟨#[]⟩ ∧ e9 3 = .string s_70 ∧ e9 4 = .slice (some ⟨g_4, 0, none⟩) 12 12 ∧ e9 5 = .int .i64 4 ∧ e9 6 = .agg (cdA c) ∧ e9 7 = .slice (some ⟨g_4, 0, none⟩) 12 12) ⟨(by kernel_rfl), (by kernel_rfl), (by kernel_rfl), (by kernel_rfl), (by kernel_rfl), (by kernel_rfl), (by kernel_rfl), (by kernel_rfl)⟩ ?_
  rintro e_73 ⟨hv_75, hv_76, hv_77, hv_78, hv_79, hv_80, hv_81, hv_82⟩
  obtain ⟨e_74, rfl⟩ : ∃ e_74, e_73 = put1 (put1 (put1 (put1 (put1 (put1 (put1 (put1 e_74 0 (.agg (cdA c))) 1 (.pointer (some ⟨g_1, 0, none⟩))) 2 (.string ⟨#[]⟩)) 3 (.string s_70)) 4 (.slice (some ⟨g_4, 0, none⟩) 12 12)) 5 (.int .i64 4)) 6 (.agg (cdA c))) 7 (.slice (some ⟨g_4, 0, none⟩) 12 12) := ⟨e_73, (put_self hv_82).trans (congrArg (fun z => put1 z 7 (.slice (some ⟨g_4, 0, none⟩) 12 12)) ((put_self hv_81).trans (congrArg (fun z => put1 z 6 (.agg (cdA c))) ((put_self hv_80).trans (congrArg (fun z => put1 z 5 (.int .i64 4)) ((put_self hv_79).trans (congrArg (fun z => put1 z 4 (.slice (some ⟨g_4, 0, none⟩) 12 12)) ((put_self hv_78).trans (congrArg (fun z => put1 z 3 (.string s_70)) ((put_self hv_77).trans (congrArg (fun z => put1 z 2 (.string ⟨#[]⟩)) ((put_self hv_76).trans (congrArg (fun z => put1 z 1 (.pointer (some ⟨g_1, 0, none⟩))) (put_self hv_75))))))))))))))⟩
  clear hv_75 hv_76 hv_77 hv_78 hv_79 hv_80 hv_81 hv_82
  refine CR.more ?_
  refine CW.seq ?_
  refine CW.seq ?_
  refine CW.region ?_
  refine SL.v (.int .i64 4) ?_
  refine SL.v (.slice (some ⟨g_4, 0, none⟩) 12 12) ?_
  refine SL.val (v := .int .i64 12) (w' := w_67) rfl rfl (by kernel_rfl) ?_
  refine SL.v (.bool true) ?_
  refine SL.nil ?_
  refine CW.cond_true (by kernel_rfl) ?_
  refine CW.skip ?_
  refine CW.seq ?_
  refine CW.block ?_
  refine CW.seq ?_
  refine CW.seq ?_
  refine CW.region ?_
  refine SL.v (.int .i64 4) ?_
  refine SL.v (.bool true) ?_
  refine SL.nil ?_
  refine CW.cond_true (by kernel_rfl) ?_
  refine CW.region ?_
  refine SL.v (.string s_70) ?_
  refine SL.cat (a := s_70) (b := ⟨#[59]⟩) (p := 31) (q := 1) (r := 32) rfl rfl rfl (by kernel_rfl) (by kernel_rfl) hz_71 (show (⟨#[59]⟩ : ByteArray).size ≤ 1 from Nat.le_refl 1) (by kernel_rfl) (by kernel_rfl) rfl (fun s_83 he_85 hz_84 => ?_)
  refine SL.v (.string s_83) ?_
  refine SL.nil ?_
  refine CW.region ?_
  refine SL.v (.string s_83) ?_
  refine SL.v (.slice (some ⟨g_4, 0, none⟩) 12 12) ?_
  refine SL.v (.int .i64 4) ?_
  refine SL.v (.pointer (some ⟨g_4, 4, none⟩)) ?_
  refine SL.load (g := g_4) (off := 4) (v := .int .i64 (flagZ c.clean.stream)) rfl rfl rfl (by kernel_rfl) (hs_69.all 1 g_4 _ rfl) (by kernel_rfl) ?_
  refine SL.call (f := 53) (args := #[.int .i64 (flagZ c.clean.stream)]) (w1 := w_67) rfl rfl (by kernel_rfl) (dec_d (flagZ c.clean.stream) w_67 (hn _ (by simp [Cor.nums]))) ?_
  rintro x w_86 ⟨rfl, hc_87⟩
  refine ⟨.string (dstr (flagZ c.clean.stream)), rfl, ?_⟩
  have hs_88 := hs_69.grow hc_87
  refine SL.cat (a := s_83) (b := dstr (flagZ c.clean.stream)) (p := 32) (q := 7) (r := 39) rfl rfl rfl (by kernel_rfl) (by kernel_rfl) hz_84 (dstr_size (flagZ c.clean.stream)) (by kernel_rfl) (by kernel_rfl) rfl (fun s_89 he_91 hz_90 => ?_)
  refine SL.v (.string s_89) ?_
  refine SL.nil ?_
  refine CW.region ?_
  refine SL.v (.int .i64 4) ?_
  refine SL.v (.int .i64 5) ?_
  refine SL.v (.int .i64 5) ?_
  refine SL.nil ?_
  refine CR.fresh (fun e9 => e9 0 = .agg (cdA c) ∧ e9 1 = .pointer (some ⟨g_1, 0, none⟩) ∧ e9 2 = .string ⟨#[]⟩ ∧ e9 3 = .string s_89 ∧ e9 4 = .slice (some ⟨g_4, 0, none⟩) 12 12 ∧ e9 5 = .int .i64 5 ∧ e9 6 = .agg (cdA c) ∧ e9 7 = .slice (some ⟨g_4, 0, none⟩) 12 12) ⟨(by kernel_rfl), (by kernel_rfl), (by kernel_rfl), (by kernel_rfl), (by kernel_rfl), (by kernel_rfl), (by kernel_rfl), (by kernel_rfl)⟩ ?_
  rintro e_92 ⟨hv_94, hv_95, hv_96, hv_97, hv_98, hv_99, hv_100, hv_101⟩
  obtain ⟨e_93, rfl⟩ : ∃ e_93, e_92 = put1 (put1 (put1 (put1 (put1 (put1 (put1 (put1 e_93 0 (.agg (cdA c))) 1 (.pointer (some ⟨g_1, 0, none⟩))) 2 (.string ⟨#[]⟩)) 3 (.string s_89)) 4 (.slice (some ⟨g_4, 0, none⟩) 12 12)) 5 (.int .i64 5)) 6 (.agg (cdA c))) 7 (.slice (some ⟨g_4, 0, none⟩) 12 12) := ⟨e_92, (put_self hv_101).trans (congrArg (fun z => put1 z 7 (.slice (some ⟨g_4, 0, none⟩) 12 12)) ((put_self hv_100).trans (congrArg (fun z => put1 z 6 (.agg (cdA c))) ((put_self hv_99).trans (congrArg (fun z => put1 z 5 (.int .i64 5)) ((put_self hv_98).trans (congrArg (fun z => put1 z 4 (.slice (some ⟨g_4, 0, none⟩) 12 12)) ((put_self hv_97).trans (congrArg (fun z => put1 z 3 (.string s_89)) ((put_self hv_96).trans (congrArg (fun z => put1 z 2 (.string ⟨#[]⟩)) ((put_self hv_95).trans (congrArg (fun z => put1 z 1 (.pointer (some ⟨g_1, 0, none⟩))) (put_self hv_94))))))))))))))⟩
  clear hv_94 hv_95 hv_96 hv_97 hv_98 hv_99 hv_100 hv_101
  refine CR.more ?_
  refine CW.seq ?_
  refine CW.seq ?_
  refine CW.region ?_
  refine SL.v (.int .i64 5) ?_
  refine SL.v (.slice (some ⟨g_4, 0, none⟩) 12 12) ?_
  refine SL.val (v := .int .i64 12) (w' := w_86) rfl rfl (by kernel_rfl) ?_
  refine SL.v (.bool true) ?_
  refine SL.nil ?_
  refine CW.cond_true (by kernel_rfl) ?_
  refine CW.skip ?_
  refine CW.seq ?_
  refine CW.block ?_
  refine CW.seq ?_
  refine CW.seq ?_
  refine CW.region ?_
  refine SL.v (.int .i64 5) ?_
  refine SL.v (.bool true) ?_
  refine SL.nil ?_
  refine CW.cond_true (by kernel_rfl) ?_
  refine CW.region ?_
  refine SL.v (.string s_89) ?_
  refine SL.cat (a := s_89) (b := ⟨#[59]⟩) (p := 39) (q := 1) (r := 40) rfl rfl rfl (by kernel_rfl) (by kernel_rfl) hz_90 (show (⟨#[59]⟩ : ByteArray).size ≤ 1 from Nat.le_refl 1) (by kernel_rfl) (by kernel_rfl) rfl (fun s_102 he_104 hz_103 => ?_)
  refine SL.v (.string s_102) ?_
  refine SL.nil ?_
  refine CW.region ?_
  refine SL.v (.string s_102) ?_
  refine SL.v (.slice (some ⟨g_4, 0, none⟩) 12 12) ?_
  refine SL.v (.int .i64 5) ?_
  refine SL.v (.pointer (some ⟨g_4, 5, none⟩)) ?_
  refine SL.load (g := g_4) (off := 5) (v := .int .i64 c.clean.status) rfl rfl rfl (by kernel_rfl) (hs_88.all 1 g_4 _ rfl) (by kernel_rfl) ?_
  refine SL.call (f := 53) (args := #[.int .i64 c.clean.status]) (w1 := w_86) rfl rfl (by kernel_rfl) (dec_d c.clean.status w_86 (hn _ (by simp [Cor.nums]))) ?_
  rintro x w_105 ⟨rfl, hc_106⟩
  refine ⟨.string (dstr c.clean.status), rfl, ?_⟩
  have hs_107 := hs_88.grow hc_106
  refine SL.cat (a := s_102) (b := dstr c.clean.status) (p := 40) (q := 7) (r := 47) rfl rfl rfl (by kernel_rfl) (by kernel_rfl) hz_103 (dstr_size c.clean.status) (by kernel_rfl) (by kernel_rfl) rfl (fun s_108 he_110 hz_109 => ?_)
  refine SL.v (.string s_108) ?_
  refine SL.nil ?_
  refine CW.region ?_
  refine SL.v (.int .i64 5) ?_
  refine SL.v (.int .i64 6) ?_
  refine SL.v (.int .i64 6) ?_
  refine SL.nil ?_
  refine CR.fresh (fun e9 => e9 0 = .agg (cdA c) ∧ e9 1 = .pointer (some ⟨g_1, 0, none⟩) ∧ e9 2 = .string ⟨#[]⟩ ∧ e9 3 = .string s_108 ∧ e9 4 = .slice (some ⟨g_4, 0, none⟩) 12 12 ∧ e9 5 = .int .i64 6 ∧ e9 6 = .agg (cdA c) ∧ e9 7 = .slice (some ⟨g_4, 0, none⟩) 12 12) ⟨(by kernel_rfl), (by kernel_rfl), (by kernel_rfl), (by kernel_rfl), (by kernel_rfl), (by kernel_rfl), (by kernel_rfl), (by kernel_rfl)⟩ ?_
  rintro e_111 ⟨hv_113, hv_114, hv_115, hv_116, hv_117, hv_118, hv_119, hv_120⟩
  obtain ⟨e_112, rfl⟩ : ∃ e_112, e_111 = put1 (put1 (put1 (put1 (put1 (put1 (put1 (put1 e_112 0 (.agg (cdA c))) 1 (.pointer (some ⟨g_1, 0, none⟩))) 2 (.string ⟨#[]⟩)) 3 (.string s_108)) 4 (.slice (some ⟨g_4, 0, none⟩) 12 12)) 5 (.int .i64 6)) 6 (.agg (cdA c))) 7 (.slice (some ⟨g_4, 0, none⟩) 12 12) := ⟨e_111, (put_self hv_120).trans (congrArg (fun z => put1 z 7 (.slice (some ⟨g_4, 0, none⟩) 12 12)) ((put_self hv_119).trans (congrArg (fun z => put1 z 6 (.agg (cdA c))) ((put_self hv_118).trans (congrArg (fun z => put1 z 5 (.int .i64 6)) ((put_self hv_117).trans (congrArg (fun z => put1 z 4 (.slice (some ⟨g_4, 0, none⟩) 12 12)) ((put_self hv_116).trans (congrArg (fun z => put1 z 3 (.string s_108)) ((put_self hv_115).trans (congrArg (fun z => put1 z 2 (.string ⟨#[]⟩)) ((put_self hv_114).trans (congrArg (fun z => put1 z 1 (.pointer (some ⟨g_1, 0, none⟩))) (put_self hv_113))))))))))))))⟩
  clear hv_113 hv_114 hv_115 hv_116 hv_117 hv_118 hv_119 hv_120
  refine CR.more ?_
  refine CW.seq ?_
  refine CW.seq ?_
  refine CW.region ?_
  refine SL.v (.int .i64 6) ?_
  refine SL.v (.slice (some ⟨g_4, 0, none⟩) 12 12) ?_
  refine SL.val (v := .int .i64 12) (w' := w_105) rfl rfl (by kernel_rfl) ?_
  refine SL.v (.bool true) ?_
  refine SL.nil ?_
  refine CW.cond_true (by kernel_rfl) ?_
  refine CW.skip ?_
  refine CW.seq ?_
  refine CW.block ?_
  refine CW.seq ?_
  refine CW.seq ?_
  refine CW.region ?_
  refine SL.v (.int .i64 6) ?_
  refine SL.v (.bool true) ?_
  refine SL.nil ?_
  refine CW.cond_true (by kernel_rfl) ?_
  refine CW.region ?_
  refine SL.v (.string s_108) ?_
  refine SL.cat (a := s_108) (b := ⟨#[59]⟩) (p := 47) (q := 1) (r := 48) rfl rfl rfl (by kernel_rfl) (by kernel_rfl) hz_109 (show (⟨#[59]⟩ : ByteArray).size ≤ 1 from Nat.le_refl 1) (by kernel_rfl) (by kernel_rfl) rfl (fun s_121 he_123 hz_122 => ?_)
  refine SL.v (.string s_121) ?_
  refine SL.nil ?_
  refine CW.region ?_
  refine SL.v (.string s_121) ?_
  refine SL.v (.slice (some ⟨g_4, 0, none⟩) 12 12) ?_
  refine SL.v (.int .i64 6) ?_
  refine SL.v (.pointer (some ⟨g_4, 6, none⟩)) ?_
  refine SL.load (g := g_4) (off := 6) (v := .int .i64 (flagZ c.clean.below)) rfl rfl rfl (by kernel_rfl) (hs_107.all 1 g_4 _ rfl) (by kernel_rfl) ?_
  refine SL.call (f := 53) (args := #[.int .i64 (flagZ c.clean.below)]) (w1 := w_105) rfl rfl (by kernel_rfl) (dec_d (flagZ c.clean.below) w_105 (hn _ (by simp [Cor.nums]))) ?_
  rintro x w_124 ⟨rfl, hc_125⟩
  refine ⟨.string (dstr (flagZ c.clean.below)), rfl, ?_⟩
  have hs_126 := hs_107.grow hc_125
  refine SL.cat (a := s_121) (b := dstr (flagZ c.clean.below)) (p := 48) (q := 7) (r := 55) rfl rfl rfl (by kernel_rfl) (by kernel_rfl) hz_122 (dstr_size (flagZ c.clean.below)) (by kernel_rfl) (by kernel_rfl) rfl (fun s_127 he_129 hz_128 => ?_)
  refine SL.v (.string s_127) ?_
  refine SL.nil ?_
  refine CW.region ?_
  refine SL.v (.int .i64 6) ?_
  refine SL.v (.int .i64 7) ?_
  refine SL.v (.int .i64 7) ?_
  refine SL.nil ?_
  refine CR.fresh (fun e9 => e9 0 = .agg (cdA c) ∧ e9 1 = .pointer (some ⟨g_1, 0, none⟩) ∧ e9 2 = .string ⟨#[]⟩ ∧ e9 3 = .string s_127 ∧ e9 4 = .slice (some ⟨g_4, 0, none⟩) 12 12 ∧ e9 5 = .int .i64 7 ∧ e9 6 = .agg (cdA c) ∧ e9 7 = .slice (some ⟨g_4, 0, none⟩) 12 12) ⟨(by kernel_rfl), (by kernel_rfl), (by kernel_rfl), (by kernel_rfl), (by kernel_rfl), (by kernel_rfl), (by kernel_rfl), (by kernel_rfl)⟩ ?_
  rintro e_130 ⟨hv_132, hv_133, hv_134, hv_135, hv_136, hv_137, hv_138, hv_139⟩
  obtain ⟨e_131, rfl⟩ : ∃ e_131, e_130 = put1 (put1 (put1 (put1 (put1 (put1 (put1 (put1 e_131 0 (.agg (cdA c))) 1 (.pointer (some ⟨g_1, 0, none⟩))) 2 (.string ⟨#[]⟩)) 3 (.string s_127)) 4 (.slice (some ⟨g_4, 0, none⟩) 12 12)) 5 (.int .i64 7)) 6 (.agg (cdA c))) 7 (.slice (some ⟨g_4, 0, none⟩) 12 12) := ⟨e_130, (put_self hv_139).trans (congrArg (fun z => put1 z 7 (.slice (some ⟨g_4, 0, none⟩) 12 12)) ((put_self hv_138).trans (congrArg (fun z => put1 z 6 (.agg (cdA c))) ((put_self hv_137).trans (congrArg (fun z => put1 z 5 (.int .i64 7)) ((put_self hv_136).trans (congrArg (fun z => put1 z 4 (.slice (some ⟨g_4, 0, none⟩) 12 12)) ((put_self hv_135).trans (congrArg (fun z => put1 z 3 (.string s_127)) ((put_self hv_134).trans (congrArg (fun z => put1 z 2 (.string ⟨#[]⟩)) ((put_self hv_133).trans (congrArg (fun z => put1 z 1 (.pointer (some ⟨g_1, 0, none⟩))) (put_self hv_132))))))))))))))⟩
  clear hv_132 hv_133 hv_134 hv_135 hv_136 hv_137 hv_138 hv_139
  refine CR.more ?_
  refine CW.seq ?_
  refine CW.seq ?_
  refine CW.region ?_
  refine SL.v (.int .i64 7) ?_
  refine SL.v (.slice (some ⟨g_4, 0, none⟩) 12 12) ?_
  refine SL.val (v := .int .i64 12) (w' := w_124) rfl rfl (by kernel_rfl) ?_
  refine SL.v (.bool true) ?_
  refine SL.nil ?_
  refine CW.cond_true (by kernel_rfl) ?_
  refine CW.skip ?_
  refine CW.seq ?_
  refine CW.block ?_
  refine CW.seq ?_
  refine CW.seq ?_
  refine CW.region ?_
  refine SL.v (.int .i64 7) ?_
  refine SL.v (.bool true) ?_
  refine SL.nil ?_
  refine CW.cond_true (by kernel_rfl) ?_
  refine CW.region ?_
  refine SL.v (.string s_127) ?_
  refine SL.cat (a := s_127) (b := ⟨#[59]⟩) (p := 55) (q := 1) (r := 56) rfl rfl rfl (by kernel_rfl) (by kernel_rfl) hz_128 (show (⟨#[59]⟩ : ByteArray).size ≤ 1 from Nat.le_refl 1) (by kernel_rfl) (by kernel_rfl) rfl (fun s_140 he_142 hz_141 => ?_)
  refine SL.v (.string s_140) ?_
  refine SL.nil ?_
  refine CW.region ?_
  refine SL.v (.string s_140) ?_
  refine SL.v (.slice (some ⟨g_4, 0, none⟩) 12 12) ?_
  refine SL.v (.int .i64 7) ?_
  refine SL.v (.pointer (some ⟨g_4, 7, none⟩)) ?_
  refine SL.load (g := g_4) (off := 7) (v := .int .i64 c.clean.mt) rfl rfl rfl (by kernel_rfl) (hs_126.all 1 g_4 _ rfl) (by kernel_rfl) ?_
  refine SL.call (f := 53) (args := #[.int .i64 c.clean.mt]) (w1 := w_124) rfl rfl (by kernel_rfl) (dec_d c.clean.mt w_124 (hn _ (by simp [Cor.nums]))) ?_
  rintro x w_143 ⟨rfl, hc_144⟩
  refine ⟨.string (dstr c.clean.mt), rfl, ?_⟩
  have hs_145 := hs_126.grow hc_144
  refine SL.cat (a := s_140) (b := dstr c.clean.mt) (p := 56) (q := 7) (r := 63) rfl rfl rfl (by kernel_rfl) (by kernel_rfl) hz_141 (dstr_size c.clean.mt) (by kernel_rfl) (by kernel_rfl) rfl (fun s_146 he_148 hz_147 => ?_)
  refine SL.v (.string s_146) ?_
  refine SL.nil ?_
  refine CW.region ?_
  refine SL.v (.int .i64 7) ?_
  refine SL.v (.int .i64 8) ?_
  refine SL.v (.int .i64 8) ?_
  refine SL.nil ?_
  refine CR.fresh (fun e9 => e9 0 = .agg (cdA c) ∧ e9 1 = .pointer (some ⟨g_1, 0, none⟩) ∧ e9 2 = .string ⟨#[]⟩ ∧ e9 3 = .string s_146 ∧ e9 4 = .slice (some ⟨g_4, 0, none⟩) 12 12 ∧ e9 5 = .int .i64 8 ∧ e9 6 = .agg (cdA c) ∧ e9 7 = .slice (some ⟨g_4, 0, none⟩) 12 12) ⟨(by kernel_rfl), (by kernel_rfl), (by kernel_rfl), (by kernel_rfl), (by kernel_rfl), (by kernel_rfl), (by kernel_rfl), (by kernel_rfl)⟩ ?_
  rintro e_149 ⟨hv_151, hv_152, hv_153, hv_154, hv_155, hv_156, hv_157, hv_158⟩
  obtain ⟨e_150, rfl⟩ : ∃ e_150, e_149 = put1 (put1 (put1 (put1 (put1 (put1 (put1 (put1 e_150 0 (.agg (cdA c))) 1 (.pointer (some ⟨g_1, 0, none⟩))) 2 (.string ⟨#[]⟩)) 3 (.string s_146)) 4 (.slice (some ⟨g_4, 0, none⟩) 12 12)) 5 (.int .i64 8)) 6 (.agg (cdA c))) 7 (.slice (some ⟨g_4, 0, none⟩) 12 12) := ⟨e_149, (put_self hv_158).trans (congrArg (fun z => put1 z 7 (.slice (some ⟨g_4, 0, none⟩) 12 12)) ((put_self hv_157).trans (congrArg (fun z => put1 z 6 (.agg (cdA c))) ((put_self hv_156).trans (congrArg (fun z => put1 z 5 (.int .i64 8)) ((put_self hv_155).trans (congrArg (fun z => put1 z 4 (.slice (some ⟨g_4, 0, none⟩) 12 12)) ((put_self hv_154).trans (congrArg (fun z => put1 z 3 (.string s_146)) ((put_self hv_153).trans (congrArg (fun z => put1 z 2 (.string ⟨#[]⟩)) ((put_self hv_152).trans (congrArg (fun z => put1 z 1 (.pointer (some ⟨g_1, 0, none⟩))) (put_self hv_151))))))))))))))⟩
  clear hv_151 hv_152 hv_153 hv_154 hv_155 hv_156 hv_157 hv_158
  refine CR.more ?_
  refine CW.seq ?_
  refine CW.seq ?_
  refine CW.region ?_
  refine SL.v (.int .i64 8) ?_
  refine SL.v (.slice (some ⟨g_4, 0, none⟩) 12 12) ?_
  refine SL.val (v := .int .i64 12) (w' := w_143) rfl rfl (by kernel_rfl) ?_
  refine SL.v (.bool true) ?_
  refine SL.nil ?_
  refine CW.cond_true (by kernel_rfl) ?_
  refine CW.skip ?_
  refine CW.seq ?_
  refine CW.block ?_
  refine CW.seq ?_
  refine CW.seq ?_
  refine CW.region ?_
  refine SL.v (.int .i64 8) ?_
  refine SL.v (.bool true) ?_
  refine SL.nil ?_
  refine CW.cond_true (by kernel_rfl) ?_
  refine CW.region ?_
  refine SL.v (.string s_146) ?_
  refine SL.cat (a := s_146) (b := ⟨#[59]⟩) (p := 63) (q := 1) (r := 64) rfl rfl rfl (by kernel_rfl) (by kernel_rfl) hz_147 (show (⟨#[59]⟩ : ByteArray).size ≤ 1 from Nat.le_refl 1) (by kernel_rfl) (by kernel_rfl) rfl (fun s_159 he_161 hz_160 => ?_)
  refine SL.v (.string s_159) ?_
  refine SL.nil ?_
  refine CW.region ?_
  refine SL.v (.string s_159) ?_
  refine SL.v (.slice (some ⟨g_4, 0, none⟩) 12 12) ?_
  refine SL.v (.int .i64 8) ?_
  refine SL.v (.pointer (some ⟨g_4, 8, none⟩)) ?_
  refine SL.load (g := g_4) (off := 8) (v := .int .i64 c.clean.ml) rfl rfl rfl (by kernel_rfl) (hs_145.all 1 g_4 _ rfl) (by kernel_rfl) ?_
  refine SL.call (f := 53) (args := #[.int .i64 c.clean.ml]) (w1 := w_143) rfl rfl (by kernel_rfl) (dec_d c.clean.ml w_143 (hn _ (by simp [Cor.nums]))) ?_
  rintro x w_162 ⟨rfl, hc_163⟩
  refine ⟨.string (dstr c.clean.ml), rfl, ?_⟩
  have hs_164 := hs_145.grow hc_163
  refine SL.cat (a := s_159) (b := dstr c.clean.ml) (p := 64) (q := 7) (r := 71) rfl rfl rfl (by kernel_rfl) (by kernel_rfl) hz_160 (dstr_size c.clean.ml) (by kernel_rfl) (by kernel_rfl) rfl (fun s_165 he_167 hz_166 => ?_)
  refine SL.v (.string s_165) ?_
  refine SL.nil ?_
  refine CW.region ?_
  refine SL.v (.int .i64 8) ?_
  refine SL.v (.int .i64 9) ?_
  refine SL.v (.int .i64 9) ?_
  refine SL.nil ?_
  refine CR.fresh (fun e9 => e9 0 = .agg (cdA c) ∧ e9 1 = .pointer (some ⟨g_1, 0, none⟩) ∧ e9 2 = .string ⟨#[]⟩ ∧ e9 3 = .string s_165 ∧ e9 4 = .slice (some ⟨g_4, 0, none⟩) 12 12 ∧ e9 5 = .int .i64 9 ∧ e9 6 = .agg (cdA c) ∧ e9 7 = .slice (some ⟨g_4, 0, none⟩) 12 12) ⟨(by kernel_rfl), (by kernel_rfl), (by kernel_rfl), (by kernel_rfl), (by kernel_rfl), (by kernel_rfl), (by kernel_rfl), (by kernel_rfl)⟩ ?_
  rintro e_168 ⟨hv_170, hv_171, hv_172, hv_173, hv_174, hv_175, hv_176, hv_177⟩
  obtain ⟨e_169, rfl⟩ : ∃ e_169, e_168 = put1 (put1 (put1 (put1 (put1 (put1 (put1 (put1 e_169 0 (.agg (cdA c))) 1 (.pointer (some ⟨g_1, 0, none⟩))) 2 (.string ⟨#[]⟩)) 3 (.string s_165)) 4 (.slice (some ⟨g_4, 0, none⟩) 12 12)) 5 (.int .i64 9)) 6 (.agg (cdA c))) 7 (.slice (some ⟨g_4, 0, none⟩) 12 12) := ⟨e_168, (put_self hv_177).trans (congrArg (fun z => put1 z 7 (.slice (some ⟨g_4, 0, none⟩) 12 12)) ((put_self hv_176).trans (congrArg (fun z => put1 z 6 (.agg (cdA c))) ((put_self hv_175).trans (congrArg (fun z => put1 z 5 (.int .i64 9)) ((put_self hv_174).trans (congrArg (fun z => put1 z 4 (.slice (some ⟨g_4, 0, none⟩) 12 12)) ((put_self hv_173).trans (congrArg (fun z => put1 z 3 (.string s_165)) ((put_self hv_172).trans (congrArg (fun z => put1 z 2 (.string ⟨#[]⟩)) ((put_self hv_171).trans (congrArg (fun z => put1 z 1 (.pointer (some ⟨g_1, 0, none⟩))) (put_self hv_170))))))))))))))⟩
  clear hv_170 hv_171 hv_172 hv_173 hv_174 hv_175 hv_176 hv_177
  refine CR.more ?_
  refine CW.seq ?_
  refine CW.seq ?_
  refine CW.region ?_
  refine SL.v (.int .i64 9) ?_
  refine SL.v (.slice (some ⟨g_4, 0, none⟩) 12 12) ?_
  refine SL.val (v := .int .i64 12) (w' := w_162) rfl rfl (by kernel_rfl) ?_
  refine SL.v (.bool true) ?_
  refine SL.nil ?_
  refine CW.cond_true (by kernel_rfl) ?_
  refine CW.skip ?_
  refine CW.seq ?_
  refine CW.block ?_
  refine CW.seq ?_
  refine CW.seq ?_
  refine CW.region ?_
  refine SL.v (.int .i64 9) ?_
  refine SL.v (.bool true) ?_
  refine SL.nil ?_
  refine CW.cond_true (by kernel_rfl) ?_
  refine CW.region ?_
  refine SL.v (.string s_165) ?_
  refine SL.cat (a := s_165) (b := ⟨#[59]⟩) (p := 71) (q := 1) (r := 72) rfl rfl rfl (by kernel_rfl) (by kernel_rfl) hz_166 (show (⟨#[59]⟩ : ByteArray).size ≤ 1 from Nat.le_refl 1) (by kernel_rfl) (by kernel_rfl) rfl (fun s_178 he_180 hz_179 => ?_)
  refine SL.v (.string s_178) ?_
  refine SL.nil ?_
  refine CW.region ?_
  refine SL.v (.string s_178) ?_
  refine SL.v (.slice (some ⟨g_4, 0, none⟩) 12 12) ?_
  refine SL.v (.int .i64 9) ?_
  refine SL.v (.pointer (some ⟨g_4, 9, none⟩)) ?_
  refine SL.load (g := g_4) (off := 9) (v := .int .i64 c.clean.mb) rfl rfl rfl (by kernel_rfl) (hs_164.all 1 g_4 _ rfl) (by kernel_rfl) ?_
  refine SL.call (f := 53) (args := #[.int .i64 c.clean.mb]) (w1 := w_162) rfl rfl (by kernel_rfl) (dec_d c.clean.mb w_162 (hn _ (by simp [Cor.nums]))) ?_
  rintro x w_181 ⟨rfl, hc_182⟩
  refine ⟨.string (dstr c.clean.mb), rfl, ?_⟩
  have hs_183 := hs_164.grow hc_182
  refine SL.cat (a := s_178) (b := dstr c.clean.mb) (p := 72) (q := 7) (r := 79) rfl rfl rfl (by kernel_rfl) (by kernel_rfl) hz_179 (dstr_size c.clean.mb) (by kernel_rfl) (by kernel_rfl) rfl (fun s_184 he_186 hz_185 => ?_)
  refine SL.v (.string s_184) ?_
  refine SL.nil ?_
  refine CW.region ?_
  refine SL.v (.int .i64 9) ?_
  refine SL.v (.int .i64 10) ?_
  refine SL.v (.int .i64 10) ?_
  refine SL.nil ?_
  refine CR.fresh (fun e9 => e9 0 = .agg (cdA c) ∧ e9 1 = .pointer (some ⟨g_1, 0, none⟩) ∧ e9 2 = .string ⟨#[]⟩ ∧ e9 3 = .string s_184 ∧ e9 4 = .slice (some ⟨g_4, 0, none⟩) 12 12 ∧ e9 5 = .int .i64 10 ∧ e9 6 = .agg (cdA c) ∧ e9 7 = .slice (some ⟨g_4, 0, none⟩) 12 12) ⟨(by kernel_rfl), (by kernel_rfl), (by kernel_rfl), (by kernel_rfl), (by kernel_rfl), (by kernel_rfl), (by kernel_rfl), (by kernel_rfl)⟩ ?_
  rintro e_187 ⟨hv_189, hv_190, hv_191, hv_192, hv_193, hv_194, hv_195, hv_196⟩
  obtain ⟨e_188, rfl⟩ : ∃ e_188, e_187 = put1 (put1 (put1 (put1 (put1 (put1 (put1 (put1 e_188 0 (.agg (cdA c))) 1 (.pointer (some ⟨g_1, 0, none⟩))) 2 (.string ⟨#[]⟩)) 3 (.string s_184)) 4 (.slice (some ⟨g_4, 0, none⟩) 12 12)) 5 (.int .i64 10)) 6 (.agg (cdA c))) 7 (.slice (some ⟨g_4, 0, none⟩) 12 12) := ⟨e_187, (put_self hv_196).trans (congrArg (fun z => put1 z 7 (.slice (some ⟨g_4, 0, none⟩) 12 12)) ((put_self hv_195).trans (congrArg (fun z => put1 z 6 (.agg (cdA c))) ((put_self hv_194).trans (congrArg (fun z => put1 z 5 (.int .i64 10)) ((put_self hv_193).trans (congrArg (fun z => put1 z 4 (.slice (some ⟨g_4, 0, none⟩) 12 12)) ((put_self hv_192).trans (congrArg (fun z => put1 z 3 (.string s_184)) ((put_self hv_191).trans (congrArg (fun z => put1 z 2 (.string ⟨#[]⟩)) ((put_self hv_190).trans (congrArg (fun z => put1 z 1 (.pointer (some ⟨g_1, 0, none⟩))) (put_self hv_189))))))))))))))⟩
  clear hv_189 hv_190 hv_191 hv_192 hv_193 hv_194 hv_195 hv_196
  refine CR.more ?_
  refine CW.seq ?_
  refine CW.seq ?_
  refine CW.region ?_
  refine SL.v (.int .i64 10) ?_
  refine SL.v (.slice (some ⟨g_4, 0, none⟩) 12 12) ?_
  refine SL.val (v := .int .i64 12) (w' := w_181) rfl rfl (by kernel_rfl) ?_
  refine SL.v (.bool true) ?_
  refine SL.nil ?_
  refine CW.cond_true (by kernel_rfl) ?_
  refine CW.skip ?_
  refine CW.seq ?_
  refine CW.block ?_
  refine CW.seq ?_
  refine CW.seq ?_
  refine CW.region ?_
  refine SL.v (.int .i64 10) ?_
  refine SL.v (.bool true) ?_
  refine SL.nil ?_
  refine CW.cond_true (by kernel_rfl) ?_
  refine CW.region ?_
  refine SL.v (.string s_184) ?_
  refine SL.cat (a := s_184) (b := ⟨#[59]⟩) (p := 79) (q := 1) (r := 80) rfl rfl rfl (by kernel_rfl) (by kernel_rfl) hz_185 (show (⟨#[59]⟩ : ByteArray).size ≤ 1 from Nat.le_refl 1) (by kernel_rfl) (by kernel_rfl) rfl (fun s_197 he_199 hz_198 => ?_)
  refine SL.v (.string s_197) ?_
  refine SL.nil ?_
  refine CW.region ?_
  refine SL.v (.string s_197) ?_
  refine SL.v (.slice (some ⟨g_4, 0, none⟩) 12 12) ?_
  refine SL.v (.int .i64 10) ?_
  refine SL.v (.pointer (some ⟨g_4, 10, none⟩)) ?_
  refine SL.load (g := g_4) (off := 10) (v := .int .i64 c.clean.mr) rfl rfl rfl (by kernel_rfl) (hs_183.all 1 g_4 _ rfl) (by kernel_rfl) ?_
  refine SL.call (f := 53) (args := #[.int .i64 c.clean.mr]) (w1 := w_181) rfl rfl (by kernel_rfl) (dec_d c.clean.mr w_181 (hn _ (by simp [Cor.nums]))) ?_
  rintro x w_200 ⟨rfl, hc_201⟩
  refine ⟨.string (dstr c.clean.mr), rfl, ?_⟩
  have hs_202 := hs_183.grow hc_201
  refine SL.cat (a := s_197) (b := dstr c.clean.mr) (p := 80) (q := 7) (r := 87) rfl rfl rfl (by kernel_rfl) (by kernel_rfl) hz_198 (dstr_size c.clean.mr) (by kernel_rfl) (by kernel_rfl) rfl (fun s_203 he_205 hz_204 => ?_)
  refine SL.v (.string s_203) ?_
  refine SL.nil ?_
  refine CW.region ?_
  refine SL.v (.int .i64 10) ?_
  refine SL.v (.int .i64 11) ?_
  refine SL.v (.int .i64 11) ?_
  refine SL.nil ?_
  refine CR.fresh (fun e9 => e9 0 = .agg (cdA c) ∧ e9 1 = .pointer (some ⟨g_1, 0, none⟩) ∧ e9 2 = .string ⟨#[]⟩ ∧ e9 3 = .string s_203 ∧ e9 4 = .slice (some ⟨g_4, 0, none⟩) 12 12 ∧ e9 5 = .int .i64 11 ∧ e9 6 = .agg (cdA c) ∧ e9 7 = .slice (some ⟨g_4, 0, none⟩) 12 12) ⟨(by kernel_rfl), (by kernel_rfl), (by kernel_rfl), (by kernel_rfl), (by kernel_rfl), (by kernel_rfl), (by kernel_rfl), (by kernel_rfl)⟩ ?_
  rintro e_206 ⟨hv_208, hv_209, hv_210, hv_211, hv_212, hv_213, hv_214, hv_215⟩
  obtain ⟨e_207, rfl⟩ : ∃ e_207, e_206 = put1 (put1 (put1 (put1 (put1 (put1 (put1 (put1 e_207 0 (.agg (cdA c))) 1 (.pointer (some ⟨g_1, 0, none⟩))) 2 (.string ⟨#[]⟩)) 3 (.string s_203)) 4 (.slice (some ⟨g_4, 0, none⟩) 12 12)) 5 (.int .i64 11)) 6 (.agg (cdA c))) 7 (.slice (some ⟨g_4, 0, none⟩) 12 12) := ⟨e_206, (put_self hv_215).trans (congrArg (fun z => put1 z 7 (.slice (some ⟨g_4, 0, none⟩) 12 12)) ((put_self hv_214).trans (congrArg (fun z => put1 z 6 (.agg (cdA c))) ((put_self hv_213).trans (congrArg (fun z => put1 z 5 (.int .i64 11)) ((put_self hv_212).trans (congrArg (fun z => put1 z 4 (.slice (some ⟨g_4, 0, none⟩) 12 12)) ((put_self hv_211).trans (congrArg (fun z => put1 z 3 (.string s_203)) ((put_self hv_210).trans (congrArg (fun z => put1 z 2 (.string ⟨#[]⟩)) ((put_self hv_209).trans (congrArg (fun z => put1 z 1 (.pointer (some ⟨g_1, 0, none⟩))) (put_self hv_208))))))))))))))⟩
  clear hv_208 hv_209 hv_210 hv_211 hv_212 hv_213 hv_214 hv_215
  refine CR.more ?_
  refine CW.seq ?_
  refine CW.seq ?_
  refine CW.region ?_
  refine SL.v (.int .i64 11) ?_
  refine SL.v (.slice (some ⟨g_4, 0, none⟩) 12 12) ?_
  refine SL.val (v := .int .i64 12) (w' := w_200) rfl rfl (by kernel_rfl) ?_
  refine SL.v (.bool true) ?_
  refine SL.nil ?_
  refine CW.cond_true (by kernel_rfl) ?_
  refine CW.skip ?_
  refine CW.seq ?_
  refine CW.block ?_
  refine CW.seq ?_
  refine CW.seq ?_
  refine CW.region ?_
  refine SL.v (.int .i64 11) ?_
  refine SL.v (.bool true) ?_
  refine SL.nil ?_
  refine CW.cond_true (by kernel_rfl) ?_
  refine CW.region ?_
  refine SL.v (.string s_203) ?_
  refine SL.cat (a := s_203) (b := ⟨#[59]⟩) (p := 87) (q := 1) (r := 88) rfl rfl rfl (by kernel_rfl) (by kernel_rfl) hz_204 (show (⟨#[59]⟩ : ByteArray).size ≤ 1 from Nat.le_refl 1) (by kernel_rfl) (by kernel_rfl) rfl (fun s_216 he_218 hz_217 => ?_)
  refine SL.v (.string s_216) ?_
  refine SL.nil ?_
  refine CW.region ?_
  refine SL.v (.string s_216) ?_
  refine SL.v (.slice (some ⟨g_4, 0, none⟩) 12 12) ?_
  refine SL.v (.int .i64 11) ?_
  refine SL.v (.pointer (some ⟨g_4, 11, none⟩)) ?_
  refine SL.load (g := g_4) (off := 11) (v := .int .i64 (flagZ c.clean.origin)) rfl rfl rfl (by kernel_rfl) (hs_202.all 1 g_4 _ rfl) (by kernel_rfl) ?_
  refine SL.call (f := 53) (args := #[.int .i64 (flagZ c.clean.origin)]) (w1 := w_200) rfl rfl (by kernel_rfl) (dec_d (flagZ c.clean.origin) w_200 (hn _ (by simp [Cor.nums]))) ?_
  rintro x w_219 ⟨rfl, hc_220⟩
  refine ⟨.string (dstr (flagZ c.clean.origin)), rfl, ?_⟩
  have hs_221 := hs_202.grow hc_220
  refine SL.cat (a := s_216) (b := dstr (flagZ c.clean.origin)) (p := 88) (q := 7) (r := 95) rfl rfl rfl (by kernel_rfl) (by kernel_rfl) hz_217 (dstr_size (flagZ c.clean.origin)) (by kernel_rfl) (by kernel_rfl) rfl (fun s_222 he_224 hz_223 => ?_)
  refine SL.v (.string s_222) ?_
  refine SL.nil ?_
  refine CW.region ?_
  refine SL.v (.int .i64 11) ?_
  refine SL.v (.int .i64 12) ?_
  refine SL.v (.int .i64 12) ?_
  refine SL.nil ?_
  refine CR.fresh (fun e9 => e9 0 = .agg (cdA c) ∧ e9 1 = .pointer (some ⟨g_1, 0, none⟩) ∧ e9 2 = .string ⟨#[]⟩ ∧ e9 3 = .string s_222 ∧ e9 4 = .slice (some ⟨g_4, 0, none⟩) 12 12 ∧ e9 5 = .int .i64 12 ∧ e9 6 = .agg (cdA c) ∧ e9 7 = .slice (some ⟨g_4, 0, none⟩) 12 12) ⟨(by kernel_rfl), (by kernel_rfl), (by kernel_rfl), (by kernel_rfl), (by kernel_rfl), (by kernel_rfl), (by kernel_rfl), (by kernel_rfl)⟩ ?_
  rintro e_225 ⟨hv_227, hv_228, hv_229, hv_230, hv_231, hv_232, hv_233, hv_234⟩
  obtain ⟨e_226, rfl⟩ : ∃ e_226, e_225 = put1 (put1 (put1 (put1 (put1 (put1 (put1 (put1 e_226 0 (.agg (cdA c))) 1 (.pointer (some ⟨g_1, 0, none⟩))) 2 (.string ⟨#[]⟩)) 3 (.string s_222)) 4 (.slice (some ⟨g_4, 0, none⟩) 12 12)) 5 (.int .i64 12)) 6 (.agg (cdA c))) 7 (.slice (some ⟨g_4, 0, none⟩) 12 12) := ⟨e_225, (put_self hv_234).trans (congrArg (fun z => put1 z 7 (.slice (some ⟨g_4, 0, none⟩) 12 12)) ((put_self hv_233).trans (congrArg (fun z => put1 z 6 (.agg (cdA c))) ((put_self hv_232).trans (congrArg (fun z => put1 z 5 (.int .i64 12)) ((put_self hv_231).trans (congrArg (fun z => put1 z 4 (.slice (some ⟨g_4, 0, none⟩) 12 12)) ((put_self hv_230).trans (congrArg (fun z => put1 z 3 (.string s_222)) ((put_self hv_229).trans (congrArg (fun z => put1 z 2 (.string ⟨#[]⟩)) ((put_self hv_228).trans (congrArg (fun z => put1 z 1 (.pointer (some ⟨g_1, 0, none⟩))) (put_self hv_227))))))))))))))⟩
  clear hv_227 hv_228 hv_229 hv_230 hv_231 hv_232 hv_233 hv_234
  refine CR.more ?_
  refine CW.seq ?_
  refine CW.seq ?_
  refine CW.region ?_
  refine SL.v (.int .i64 12) ?_
  refine SL.v (.slice (some ⟨g_4, 0, none⟩) 12 12) ?_
  refine SL.val (v := .int .i64 12) (w' := w_219) rfl rfl (by kernel_rfl) ?_
  refine SL.v (.bool false) ?_
  refine SL.nil ?_
  refine CW.cond_false (by kernel_rfl) ?_
  refine CW.exit ?_
  repeat with_reducible first | refine PThen.exit ?_ | refine PBlock.out rfl ?_
  with_reducible refine PBlock.here ?_
  repeat with_reducible refine PBlock.normal ?_
  refine CW.seq ?_
  refine CW.region ?_
  refine SL.v (.string s_222) ?_
  refine SL.v (.string s_222) ?_
  refine SL.nil ?_
  refine CW.ret ?_
  repeat with_reducible first | refine PThen.ret ?_ | refine PBlock.ret ?_
  refine PRet.tmp (t := 2) (v := .string s_222) rfl rfl (by kernel_rfl) ?_
  exact ⟨congrArg (fun z => Ending.returned (.string z)) (by rw [he_224, he_218, he_205, he_199, he_186, he_180, he_167, he_161, he_148, he_142, he_129, he_123, he_110, he_104, he_91, he_85, he_72, he_66, he_53, he_47, he_34, he_28, he_15]; exact rep_cat _ _ _ _ _ _ _ _ _ _ _ _), hs_221.gr⟩
end Go.Proofs.YtfkecgkfcldffaaDoor
