/-
  A setting of a state, the program (gen_sti.py).
-/
import Derived.Test.YthfipedfoofobaaDoorZStI
namespace Go.Proofs.YthfipedfoofobaaDoor
set_option linter.unusedSimpArgs false
set_option linter.unusedVariables false
open Go.RowKit
set_option linter.unusedVariables false

abbrev qStJ_0 (c : Cor) : Array Value := #[.int .i64 c.clean.mt, .int .i64 c.clean.ml, .int .i64 c.clean.mb, .int .i64 c.clean.mr]
abbrev qStJ_1  : Array Value := #[.int .i64 0, .int .i64 0, .int .i64 0, .int .i64 0]
set_option maxRecDepth 100000 in
set_option maxHeartbeats 4000000 in
theorem set_0 (c : Cor) (w : World) (hok : c.Ok) (hT : tabT w) : Calls Tryd.prog 5 #[.agg (cvA c), .string ⟨#[109]⟩] w fun e w' => e = .returned (.tuple #[.string (strOf (fmtR (rpar c.clean.rend)) ++ ⟨#[109]⟩), .bool true]) ∧ Gr w w' := by
  have hcm := hok.clean.modes
  have hcl := clean_nice hok
  have hf1 := flag_in c.clean.stream
  have hf2 := flag_in (!c.clean.stream)
  refine calls_sx (n := 89) (args := [.agg (cvA c), .string ⟨#[109]⟩]) Tryd.func5 rfl rfl rfl ?_
  have hs0 := SH.none w
  refine CW.seq ?_
  refine CW.region ?_
  refine SL.newH (mk := fun g => .pointer (some ⟨g, 0, none⟩)) (C := (cvA c)) (T := 43) hs0 rfl rfl (by kernel_rfl) (fun g_1 w_2 hs_3 => ?_)
  have hs_3 : SH [] w w_2 [pt g_1 (cvA c) 43] := hs_3
  refine SL.v (.string ⟨#[]⟩) ?_
  refine SL.v (.bool false) ?_
  refine SL.nil ?_
  refine CW.seq ?_
  refine CW.region ?_
  refine SL.load (g := g_1) (off := 0) (v := .agg (cvA c)) rfl rfl rfl (by kernel_rfl) (hs_3.pt_at (i := 0) rfl) (by kernel_rfl) ?_
  refine SL.call (f := 11) (args := #[.agg (cvA c)]) (w1 := w_2) rfl rfl (by kernel_rfl) (clean_any c w_2 hok) ?_
  rintro x w_4 ⟨rfl, hc_5⟩
  refine ⟨.agg (cvA c.clean), rfl, ?_⟩
  have hs_6 := hs_3.grow hc_5
  refine SL.storeH (i := 0) (g := g_1) (off := 0) (v := .agg (cvA c.clean)) (L' := [pt g_1 (cvA c.clean) 43]) hs_6 rfl rfl rfl (by kernel_rfl) (by kernel_rfl) rfl (by kernel_rfl) (by kernel_rfl) rfl (by kernel_rfl) rfl (fun w_7 hs_8 => ?_)
  refine SL.nil ?_
  refine CW.seq ?_
  refine CW.region ?_
  refine SL.v (.pointer (some ⟨g_1, 13, none⟩)) ?_
  refine SL.v (.pointer (some ⟨g_1, 17, none⟩)) ?_
  refine SL.load (g := g_1) (off := 17) (v := .agg (qStJ_0 c)) rfl rfl rfl (by kernel_rfl) (hs_8.pt_at (i := 0) rfl) (by kernel_rfl) ?_
  refine SL.newH (mk := fun g => .pointer (some ⟨g, 0, none⟩)) (C := (qStJ_1)) (T := 29) hs_8 rfl rfl (by kernel_rfl) (fun g_9 w_10 hs_11 => ?_)
  have hs_11 : SH [] w w_10 [pt g_1 (cvA c.clean) 43, pt g_9 (qStJ_1) 29] := hs_11
  refine SL.storeH (i := 1) (g := g_9) (off := 0) (v := .agg (qStJ_0 c)) (L' := [pt g_1 (cvA c.clean) 43, pt g_9 (qStJ_0 c) 29]) hs_11 rfl rfl rfl (by kernel_rfl) (by kernel_rfl) rfl (by kernel_rfl) (by kernel_rfl) rfl (by kernel_rfl) rfl (fun w_12 hs_13 => ?_)
  refine SL.nil ?_
  refine CW.seq ?_
  refine CW.region ?_
  refine SL.v (.slice none 0 0) ?_
  refine SL.nil ?_
  refine CW.seq ?_
  refine CW.seq ?_
  refine CW.region ?_
  refine SL.v (.string ⟨#[109]⟩) ?_
  refine SL.nil ?_
  refine CW.block ?_
  refine CW.seq ?_
  refine CW.region ?_
  refine SL.val (v := .bool true) (w' := w_12) rfl rfl (run_streqB (a := ⟨#[109]⟩) (b := ⟨#[109]⟩) (c := true) rfl (by kernel_rfl) (by kernel_rfl) (by kernel_rfl)) ?_
  refine SL.v (.bool true) ?_
  refine SL.nil ?_
  refine CW.cond_true (by kernel_rfl) ?_
  refine CW.region ?_
  refine SL.v (.pointer (some ⟨g_1, 0, none⟩)) ?_
  refine SL.v (.pointer (some ⟨g_1, 2, none⟩)) ?_
  refine SL.load (g := g_1) (off := 2) (v := .int .u8 c.clean.rend) rfl rfl rfl (by kernel_rfl) (hs_13.pt_at (i := 0) rfl) (by kernel_rfl) ?_
  refine SL.callH (f := 12) (args := #[.int .u8 c.clean.rend]) (Pre := []) (Rest := [pt g_1 (cvA c.clean) 43, pt g_9 (qStJ_0 c) 29]) [] hs_13 rfl rfl (by kernel_rfl) rfl (params_any c.clean.rend w_12 (by omega)) ?_
  rintro v_ Q_ w_20 ⟨g_14, cap_15, pad_16, rfl, rfl, hl_17, hc_18, hm_19⟩ hs_22
  have hs_22 : SH [] w w_20 [pt g_14 ⟨icells (rpar c.clean.rend) ++ pad_16⟩ 3, pt g_1 (cvA c.clean) 43, pt g_9 (qStJ_0 c) 29] := hs_22
  refine SL.v (.slice (some ⟨g_14, 0, none⟩) ((rpar c.clean.rend).length) cap_15) ?_
  refine SL.nil ?_
  refine CW.seq ?_
  refine CW.region ?_
  refine SL.v (.slice (some ⟨g_14, 0, none⟩) ((rpar c.clean.rend).length) cap_15) ?_
  refine SL.call (f := 14) (args := #[.slice (some ⟨g_14, 0, none⟩) ((rpar c.clean.rend).length) cap_15]) (w1 := w_20) rfl rfl (by kernel_rfl) (fmt_walk (rd_pad (hs_22.pt_at (i := 0) rfl)) hc_18 (hT.gr hs_22.gr)) ?_
  rintro x w_23 ⟨rfl, hc_24⟩
  refine ⟨.string (strOf (fmtR (rpar c.clean.rend))), rfl, ?_⟩
  have hs_25 := hs_22.grow hc_24
  refine SL.v (.string ⟨#[109]⟩) ?_
  refine SL.cat (a := strOf (fmtR (rpar c.clean.rend))) (b := ⟨#[109]⟩) (p := 36) (q := 1) (r := 37) rfl rfl rfl (by kernel_rfl) (by kernel_rfl) (fmt_sz (rpar c.clean.rend) 6 (rpar_len c.clean.rend)) (show (⟨#[109]⟩ : ByteArray).size ≤ 1 from Nat.le_refl 1) (by kernel_rfl) (by kernel_rfl) rfl (fun s_26 he_28 hz_27 => ?_)
  refine SL.v (.string s_26) ?_
  refine SL.v (.bool true) ?_
  refine SL.nil ?_
  refine CW.ret ?_
  repeat with_reducible first | refine PThen.ret ?_ | refine PBlock.ret ?_
  refine PRet.tmp2 (t := 4) (u := 5) (v := .string s_26) (v' := .bool true) rfl rfl rfl (by kernel_rfl) (by kernel_rfl) ?_
  exact ⟨by rw [he_28], hs_25.gr⟩
set_option maxRecDepth 100000 in
set_option maxHeartbeats 4000000 in
theorem set_1 (c : Cor) (w : World) (hok : c.Ok) (hT : tabT w) : Calls Tryd.prog 5 #[.agg (cvA c), .string ⟨#[114]⟩] w fun e w' => e = .returned (.tuple #[.string (strOf (fmtR ([c.clean.mt + 1, c.clean.mb])) ++ ⟨#[114]⟩), .bool true]) ∧ Gr w w' := by
  have hcm := hok.clean.modes
  have hcl := clean_nice hok
  have hf1 := flag_in c.clean.stream
  have hf2 := flag_in (!c.clean.stream)
  refine calls_sx (n := 89) (args := [.agg (cvA c), .string ⟨#[114]⟩]) Tryd.func5 rfl rfl rfl ?_
  have hs0 := SH.none w
  refine CW.seq ?_
  refine CW.region ?_
  refine SL.newH (mk := fun g => .pointer (some ⟨g, 0, none⟩)) (C := (cvA c)) (T := 43) hs0 rfl rfl (by kernel_rfl) (fun g_1 w_2 hs_3 => ?_)
  have hs_3 : SH [] w w_2 [pt g_1 (cvA c) 43] := hs_3
  refine SL.v (.string ⟨#[]⟩) ?_
  refine SL.v (.bool false) ?_
  refine SL.nil ?_
  refine CW.seq ?_
  refine CW.region ?_
  refine SL.load (g := g_1) (off := 0) (v := .agg (cvA c)) rfl rfl rfl (by kernel_rfl) (hs_3.pt_at (i := 0) rfl) (by kernel_rfl) ?_
  refine SL.call (f := 11) (args := #[.agg (cvA c)]) (w1 := w_2) rfl rfl (by kernel_rfl) (clean_any c w_2 hok) ?_
  rintro x w_4 ⟨rfl, hc_5⟩
  refine ⟨.agg (cvA c.clean), rfl, ?_⟩
  have hs_6 := hs_3.grow hc_5
  refine SL.storeH (i := 0) (g := g_1) (off := 0) (v := .agg (cvA c.clean)) (L' := [pt g_1 (cvA c.clean) 43]) hs_6 rfl rfl rfl (by kernel_rfl) (by kernel_rfl) rfl (by kernel_rfl) (by kernel_rfl) rfl (by kernel_rfl) rfl (fun w_7 hs_8 => ?_)
  refine SL.nil ?_
  refine CW.seq ?_
  refine CW.region ?_
  refine SL.v (.pointer (some ⟨g_1, 13, none⟩)) ?_
  refine SL.v (.pointer (some ⟨g_1, 17, none⟩)) ?_
  refine SL.load (g := g_1) (off := 17) (v := .agg (qStJ_0 c)) rfl rfl rfl (by kernel_rfl) (hs_8.pt_at (i := 0) rfl) (by kernel_rfl) ?_
  refine SL.newH (mk := fun g => .pointer (some ⟨g, 0, none⟩)) (C := (qStJ_1)) (T := 29) hs_8 rfl rfl (by kernel_rfl) (fun g_9 w_10 hs_11 => ?_)
  have hs_11 : SH [] w w_10 [pt g_1 (cvA c.clean) 43, pt g_9 (qStJ_1) 29] := hs_11
  refine SL.storeH (i := 1) (g := g_9) (off := 0) (v := .agg (qStJ_0 c)) (L' := [pt g_1 (cvA c.clean) 43, pt g_9 (qStJ_0 c) 29]) hs_11 rfl rfl rfl (by kernel_rfl) (by kernel_rfl) rfl (by kernel_rfl) (by kernel_rfl) rfl (by kernel_rfl) rfl (fun w_12 hs_13 => ?_)
  refine SL.nil ?_
  refine CW.seq ?_
  refine CW.region ?_
  refine SL.v (.slice none 0 0) ?_
  refine SL.nil ?_
  refine CW.seq ?_
  refine CW.seq ?_
  refine CW.region ?_
  refine SL.v (.string ⟨#[114]⟩) ?_
  refine SL.nil ?_
  refine CW.block ?_
  refine CW.seq ?_
  refine CW.region ?_
  refine SL.val (v := .bool false) (w' := w_12) rfl rfl (run_streqB (a := ⟨#[114]⟩) (b := ⟨#[109]⟩) (c := false) rfl (by kernel_rfl) (by kernel_rfl) (by kernel_rfl)) ?_
  refine SL.v (.bool false) ?_
  refine SL.nil ?_
  refine CW.cond_false (by kernel_rfl) ?_
  refine CW.seq ?_
  refine CW.region ?_
  refine SL.val (v := .bool true) (w' := w_12) rfl rfl (run_streqB (a := ⟨#[114]⟩) (b := ⟨#[114]⟩) (c := true) rfl (by kernel_rfl) (by kernel_rfl) (by kernel_rfl)) ?_
  refine SL.v (.bool true) ?_
  refine SL.nil ?_
  refine CW.cond_true (by kernel_rfl) ?_
  refine CW.region ?_
  refine SL.v (.pointer (some ⟨g_9, 0, none⟩)) ?_
  refine SL.load (g := g_9) (off := 0) (v := .int .i64 c.clean.mt) rfl rfl rfl (by kernel_rfl) (hs_13.pt_at (i := 1) rfl) (by kernel_rfl) ?_
  refine SL.val (v := .int .i64 (c.clean.mt + 1)) (w' := w_12) rfl rfl (by have hw : IntKind.i64.wrap (c.clean.mt + 1) = c.clean.mt + 1 := IntWalk.i64_in _ (by omega); exact run_eqv (by kernel_rfl) (congrArg (fun z => Value.int .i64 z) hw)) ?_
  refine SL.v (.pointer (some ⟨g_9, 2, none⟩)) ?_
  refine SL.load (g := g_9) (off := 2) (v := .int .i64 c.clean.mb) rfl rfl rfl (by kernel_rfl) (hs_13.pt_at (i := 1) rfl) (by kernel_rfl) ?_
  refine SL.newH (mk := fun g => .slice (some ⟨g, 0, none⟩) 2 2) (C := #[.int .i64 (c.clean.mt + 1), .int .i64 c.clean.mb]) (T := 3) hs_13 rfl rfl (by kernel_rfl) (fun g_14 w_15 hs_16 => ?_)
  have hs_16 : SH [] w w_15 [pt g_1 (cvA c.clean) 43, pt g_9 (qStJ_0 c) 29, pt g_14 #[.int .i64 (c.clean.mt + 1), .int .i64 c.clean.mb] 3] := hs_16
  refine SL.v (.slice (some ⟨g_14, 0, none⟩) 2 2) ?_
  refine SL.nil ?_
  refine CW.seq ?_
  refine CW.region ?_
  refine SL.v (.slice (some ⟨g_14, 0, none⟩) 2 2) ?_
  refine SL.call (f := 14) (args := #[.slice (some ⟨g_14, 0, none⟩) 2 2]) (w1 := w_15) rfl rfl (by kernel_rfl) (fmt_walk (l := [c.clean.mt + 1, c.clean.mb]) (rd_new (hs_16.pt_at (i := 2) rfl) rfl rfl) (Nat.le_refl _) (hT.gr hs_16.gr)) ?_
  rintro x w_17 ⟨rfl, hc_18⟩
  refine ⟨.string (strOf (fmtR [c.clean.mt + 1, c.clean.mb])), rfl, ?_⟩
  have hs_19 := hs_16.grow hc_18
  refine SL.v (.string ⟨#[114]⟩) ?_
  refine SL.cat (a := strOf (fmtR [c.clean.mt + 1, c.clean.mb])) (b := ⟨#[114]⟩) (p := 12) (q := 1) (r := 13) rfl rfl rfl (by kernel_rfl) (by kernel_rfl) (fmt_sz [c.clean.mt + 1, c.clean.mb] 2 (Nat.le_refl _)) (show (⟨#[114]⟩ : ByteArray).size ≤ 1 from Nat.le_refl 1) (by kernel_rfl) (by kernel_rfl) rfl (fun s_20 he_22 hz_21 => ?_)
  refine SL.v (.string s_20) ?_
  refine SL.v (.bool true) ?_
  refine SL.nil ?_
  refine CW.ret ?_
  repeat with_reducible first | refine PThen.ret ?_ | refine PBlock.ret ?_
  refine PRet.tmp2 (t := 4) (u := 5) (v := .string s_20) (v' := .bool true) rfl rfl rfl (by kernel_rfl) (by kernel_rfl) ?_
  exact ⟨by rw [he_22], hs_19.gr⟩
set_option maxRecDepth 100000 in
set_option maxHeartbeats 4000000 in
theorem set_2 (c : Cor) (w : World) (hok : c.Ok) (hT : tabT w) : Calls Tryd.prog 5 #[.agg (cvA c), .string ⟨#[115]⟩] w fun e w' => e = .returned (.tuple #[.string (strOf (fmtR ([c.clean.ml + 1, c.clean.mr])) ++ ⟨#[115]⟩), .bool true]) ∧ Gr w w' := by
  have hcm := hok.clean.modes
  have hcl := clean_nice hok
  have hf1 := flag_in c.clean.stream
  have hf2 := flag_in (!c.clean.stream)
  refine calls_sx (n := 89) (args := [.agg (cvA c), .string ⟨#[115]⟩]) Tryd.func5 rfl rfl rfl ?_
  have hs0 := SH.none w
  refine CW.seq ?_
  refine CW.region ?_
  refine SL.newH (mk := fun g => .pointer (some ⟨g, 0, none⟩)) (C := (cvA c)) (T := 43) hs0 rfl rfl (by kernel_rfl) (fun g_1 w_2 hs_3 => ?_)
  have hs_3 : SH [] w w_2 [pt g_1 (cvA c) 43] := hs_3
  refine SL.v (.string ⟨#[]⟩) ?_
  refine SL.v (.bool false) ?_
  refine SL.nil ?_
  refine CW.seq ?_
  refine CW.region ?_
  refine SL.load (g := g_1) (off := 0) (v := .agg (cvA c)) rfl rfl rfl (by kernel_rfl) (hs_3.pt_at (i := 0) rfl) (by kernel_rfl) ?_
  refine SL.call (f := 11) (args := #[.agg (cvA c)]) (w1 := w_2) rfl rfl (by kernel_rfl) (clean_any c w_2 hok) ?_
  rintro x w_4 ⟨rfl, hc_5⟩
  refine ⟨.agg (cvA c.clean), rfl, ?_⟩
  have hs_6 := hs_3.grow hc_5
  refine SL.storeH (i := 0) (g := g_1) (off := 0) (v := .agg (cvA c.clean)) (L' := [pt g_1 (cvA c.clean) 43]) hs_6 rfl rfl rfl (by kernel_rfl) (by kernel_rfl) rfl (by kernel_rfl) (by kernel_rfl) rfl (by kernel_rfl) rfl (fun w_7 hs_8 => ?_)
  refine SL.nil ?_
  refine CW.seq ?_
  refine CW.region ?_
  refine SL.v (.pointer (some ⟨g_1, 13, none⟩)) ?_
  refine SL.v (.pointer (some ⟨g_1, 17, none⟩)) ?_
  refine SL.load (g := g_1) (off := 17) (v := .agg (qStJ_0 c)) rfl rfl rfl (by kernel_rfl) (hs_8.pt_at (i := 0) rfl) (by kernel_rfl) ?_
  refine SL.newH (mk := fun g => .pointer (some ⟨g, 0, none⟩)) (C := (qStJ_1)) (T := 29) hs_8 rfl rfl (by kernel_rfl) (fun g_9 w_10 hs_11 => ?_)
  have hs_11 : SH [] w w_10 [pt g_1 (cvA c.clean) 43, pt g_9 (qStJ_1) 29] := hs_11
  refine SL.storeH (i := 1) (g := g_9) (off := 0) (v := .agg (qStJ_0 c)) (L' := [pt g_1 (cvA c.clean) 43, pt g_9 (qStJ_0 c) 29]) hs_11 rfl rfl rfl (by kernel_rfl) (by kernel_rfl) rfl (by kernel_rfl) (by kernel_rfl) rfl (by kernel_rfl) rfl (fun w_12 hs_13 => ?_)
  refine SL.nil ?_
  refine CW.seq ?_
  refine CW.region ?_
  refine SL.v (.slice none 0 0) ?_
  refine SL.nil ?_
  refine CW.seq ?_
  refine CW.seq ?_
  refine CW.region ?_
  refine SL.v (.string ⟨#[115]⟩) ?_
  refine SL.nil ?_
  refine CW.block ?_
  refine CW.seq ?_
  refine CW.region ?_
  refine SL.val (v := .bool false) (w' := w_12) rfl rfl (run_streqB (a := ⟨#[115]⟩) (b := ⟨#[109]⟩) (c := false) rfl (by kernel_rfl) (by kernel_rfl) (by kernel_rfl)) ?_
  refine SL.v (.bool false) ?_
  refine SL.nil ?_
  refine CW.cond_false (by kernel_rfl) ?_
  refine CW.seq ?_
  refine CW.region ?_
  refine SL.val (v := .bool false) (w' := w_12) rfl rfl (run_streqB (a := ⟨#[115]⟩) (b := ⟨#[114]⟩) (c := false) rfl (by kernel_rfl) (by kernel_rfl) (by kernel_rfl)) ?_
  refine SL.v (.bool false) ?_
  refine SL.nil ?_
  refine CW.cond_false (by kernel_rfl) ?_
  refine CW.seq ?_
  refine CW.region ?_
  refine SL.val (v := .bool true) (w' := w_12) rfl rfl (run_streqB (a := ⟨#[115]⟩) (b := ⟨#[115]⟩) (c := true) rfl (by kernel_rfl) (by kernel_rfl) (by kernel_rfl)) ?_
  refine SL.v (.bool true) ?_
  refine SL.nil ?_
  refine CW.cond_true (by kernel_rfl) ?_
  refine CW.region ?_
  refine SL.v (.pointer (some ⟨g_9, 1, none⟩)) ?_
  refine SL.load (g := g_9) (off := 1) (v := .int .i64 c.clean.ml) rfl rfl rfl (by kernel_rfl) (hs_13.pt_at (i := 1) rfl) (by kernel_rfl) ?_
  refine SL.val (v := .int .i64 (c.clean.ml + 1)) (w' := w_12) rfl rfl (by have hw : IntKind.i64.wrap (c.clean.ml + 1) = c.clean.ml + 1 := IntWalk.i64_in _ (by omega); exact run_eqv (by kernel_rfl) (congrArg (fun z => Value.int .i64 z) hw)) ?_
  refine SL.v (.pointer (some ⟨g_9, 3, none⟩)) ?_
  refine SL.load (g := g_9) (off := 3) (v := .int .i64 c.clean.mr) rfl rfl rfl (by kernel_rfl) (hs_13.pt_at (i := 1) rfl) (by kernel_rfl) ?_
  refine SL.newH (mk := fun g => .slice (some ⟨g, 0, none⟩) 2 2) (C := #[.int .i64 (c.clean.ml + 1), .int .i64 c.clean.mr]) (T := 3) hs_13 rfl rfl (by kernel_rfl) (fun g_14 w_15 hs_16 => ?_)
  have hs_16 : SH [] w w_15 [pt g_1 (cvA c.clean) 43, pt g_9 (qStJ_0 c) 29, pt g_14 #[.int .i64 (c.clean.ml + 1), .int .i64 c.clean.mr] 3] := hs_16
  refine SL.v (.slice (some ⟨g_14, 0, none⟩) 2 2) ?_
  refine SL.nil ?_
  refine CW.seq ?_
  refine CW.region ?_
  refine SL.v (.slice (some ⟨g_14, 0, none⟩) 2 2) ?_
  refine SL.call (f := 14) (args := #[.slice (some ⟨g_14, 0, none⟩) 2 2]) (w1 := w_15) rfl rfl (by kernel_rfl) (fmt_walk (l := [c.clean.ml + 1, c.clean.mr]) (rd_new (hs_16.pt_at (i := 2) rfl) rfl rfl) (Nat.le_refl _) (hT.gr hs_16.gr)) ?_
  rintro x w_17 ⟨rfl, hc_18⟩
  refine ⟨.string (strOf (fmtR [c.clean.ml + 1, c.clean.mr])), rfl, ?_⟩
  have hs_19 := hs_16.grow hc_18
  refine SL.v (.string ⟨#[115]⟩) ?_
  refine SL.cat (a := strOf (fmtR [c.clean.ml + 1, c.clean.mr])) (b := ⟨#[115]⟩) (p := 12) (q := 1) (r := 13) rfl rfl rfl (by kernel_rfl) (by kernel_rfl) (fmt_sz [c.clean.ml + 1, c.clean.mr] 2 (Nat.le_refl _)) (show (⟨#[115]⟩ : ByteArray).size ≤ 1 from Nat.le_refl 1) (by kernel_rfl) (by kernel_rfl) rfl (fun s_20 he_22 hz_21 => ?_)
  refine SL.v (.string s_20) ?_
  refine SL.v (.bool true) ?_
  refine SL.nil ?_
  refine CW.ret ?_
  repeat with_reducible first | refine PThen.ret ?_ | refine PBlock.ret ?_
  refine PRet.tmp2 (t := 4) (u := 5) (v := .string s_20) (v' := .bool true) rfl rfl rfl (by kernel_rfl) (by kernel_rfl) ?_
  exact ⟨by rw [he_22], hs_19.gr⟩
set_option maxRecDepth 100000 in
set_option maxHeartbeats 4000000 in
theorem set_3 (c : Cor) (w : World) (hok : c.Ok) (hT : tabT w) : Calls Tryd.prog 5 #[.agg (cvA c), .string ⟨#[34, 113]⟩] w fun e w' => e = .returned (.tuple #[.string (strOf (fmtR ([flagZ c.clean.kept])) ++ ⟨#[34, 113]⟩), .bool true]) ∧ Gr w w' := by
  have hcm := hok.clean.modes
  have hcl := clean_nice hok
  have hf1 := flag_in c.clean.stream
  have hf2 := flag_in (!c.clean.stream)
  refine calls_sx (n := 89) (args := [.agg (cvA c), .string ⟨#[34, 113]⟩]) Tryd.func5 rfl rfl rfl ?_
  have hs0 := SH.none w
  refine CW.seq ?_
  refine CW.region ?_
  refine SL.newH (mk := fun g => .pointer (some ⟨g, 0, none⟩)) (C := (cvA c)) (T := 43) hs0 rfl rfl (by kernel_rfl) (fun g_1 w_2 hs_3 => ?_)
  have hs_3 : SH [] w w_2 [pt g_1 (cvA c) 43] := hs_3
  refine SL.v (.string ⟨#[]⟩) ?_
  refine SL.v (.bool false) ?_
  refine SL.nil ?_
  refine CW.seq ?_
  refine CW.region ?_
  refine SL.load (g := g_1) (off := 0) (v := .agg (cvA c)) rfl rfl rfl (by kernel_rfl) (hs_3.pt_at (i := 0) rfl) (by kernel_rfl) ?_
  refine SL.call (f := 11) (args := #[.agg (cvA c)]) (w1 := w_2) rfl rfl (by kernel_rfl) (clean_any c w_2 hok) ?_
  rintro x w_4 ⟨rfl, hc_5⟩
  refine ⟨.agg (cvA c.clean), rfl, ?_⟩
  have hs_6 := hs_3.grow hc_5
  refine SL.storeH (i := 0) (g := g_1) (off := 0) (v := .agg (cvA c.clean)) (L' := [pt g_1 (cvA c.clean) 43]) hs_6 rfl rfl rfl (by kernel_rfl) (by kernel_rfl) rfl (by kernel_rfl) (by kernel_rfl) rfl (by kernel_rfl) rfl (fun w_7 hs_8 => ?_)
  refine SL.nil ?_
  refine CW.seq ?_
  refine CW.region ?_
  refine SL.v (.pointer (some ⟨g_1, 13, none⟩)) ?_
  refine SL.v (.pointer (some ⟨g_1, 17, none⟩)) ?_
  refine SL.load (g := g_1) (off := 17) (v := .agg (qStJ_0 c)) rfl rfl rfl (by kernel_rfl) (hs_8.pt_at (i := 0) rfl) (by kernel_rfl) ?_
  refine SL.newH (mk := fun g => .pointer (some ⟨g, 0, none⟩)) (C := (qStJ_1)) (T := 29) hs_8 rfl rfl (by kernel_rfl) (fun g_9 w_10 hs_11 => ?_)
  have hs_11 : SH [] w w_10 [pt g_1 (cvA c.clean) 43, pt g_9 (qStJ_1) 29] := hs_11
  refine SL.storeH (i := 1) (g := g_9) (off := 0) (v := .agg (qStJ_0 c)) (L' := [pt g_1 (cvA c.clean) 43, pt g_9 (qStJ_0 c) 29]) hs_11 rfl rfl rfl (by kernel_rfl) (by kernel_rfl) rfl (by kernel_rfl) (by kernel_rfl) rfl (by kernel_rfl) rfl (fun w_12 hs_13 => ?_)
  refine SL.nil ?_
  refine CW.seq ?_
  refine CW.region ?_
  refine SL.v (.slice none 0 0) ?_
  refine SL.nil ?_
  refine CW.seq ?_
  refine CW.seq ?_
  refine CW.region ?_
  refine SL.v (.string ⟨#[34, 113]⟩) ?_
  refine SL.nil ?_
  refine CW.block ?_
  refine CW.seq ?_
  refine CW.region ?_
  refine SL.val (v := .bool false) (w' := w_12) rfl rfl (run_streqB (a := ⟨#[34, 113]⟩) (b := ⟨#[109]⟩) (c := false) rfl (by kernel_rfl) (by kernel_rfl) (by kernel_rfl)) ?_
  refine SL.v (.bool false) ?_
  refine SL.nil ?_
  refine CW.cond_false (by kernel_rfl) ?_
  refine CW.seq ?_
  refine CW.region ?_
  refine SL.val (v := .bool false) (w' := w_12) rfl rfl (run_streqB (a := ⟨#[34, 113]⟩) (b := ⟨#[114]⟩) (c := false) rfl (by kernel_rfl) (by kernel_rfl) (by kernel_rfl)) ?_
  refine SL.v (.bool false) ?_
  refine SL.nil ?_
  refine CW.cond_false (by kernel_rfl) ?_
  refine CW.seq ?_
  refine CW.region ?_
  refine SL.val (v := .bool false) (w' := w_12) rfl rfl (run_streqB (a := ⟨#[34, 113]⟩) (b := ⟨#[115]⟩) (c := false) rfl (by kernel_rfl) (by kernel_rfl) (by kernel_rfl)) ?_
  refine SL.v (.bool false) ?_
  refine SL.nil ?_
  refine CW.cond_false (by kernel_rfl) ?_
  refine CW.seq ?_
  refine CW.region ?_
  refine SL.val (v := .bool true) (w' := w_12) rfl rfl (run_streqB (a := ⟨#[34, 113]⟩) (b := ⟨#[34, 113]⟩) (c := true) rfl (by kernel_rfl) (by kernel_rfl) (by kernel_rfl)) ?_
  refine SL.v (.bool true) ?_
  refine SL.nil ?_
  refine CW.cond_true (by kernel_rfl) ?_
  refine CW.region ?_
  refine SL.v (.pointer (some ⟨g_1, 0, none⟩)) ?_
  refine SL.v (.pointer (some ⟨g_1, 3, none⟩)) ?_
  refine SL.load (g := g_1) (off := 3) (v := .bool c.clean.kept) rfl rfl rfl (by kernel_rfl) (hs_13.pt_at (i := 0) rfl) (by kernel_rfl) ?_
  refine SL.call (f := 13) (args := #[.bool c.clean.kept]) (w1 := w_12) rfl rfl (by kernel_rfl) (flag_any c.clean.kept w_12) ?_
  rintro x w_14 ⟨rfl, hc_15⟩
  refine ⟨.int .i64 (flagZ c.clean.kept), rfl, ?_⟩
  have hs_16 := hs_13.grow hc_15
  refine SL.newH (mk := fun g => .slice (some ⟨g, 0, none⟩) 1 1) (C := #[.int .i64 (flagZ c.clean.kept)]) (T := 3) hs_16 rfl rfl (by kernel_rfl) (fun g_17 w_18 hs_19 => ?_)
  have hs_19 : SH [] w w_18 [pt g_1 (cvA c.clean) 43, pt g_9 (qStJ_0 c) 29, pt g_17 #[.int .i64 (flagZ c.clean.kept)] 3] := hs_19
  refine SL.v (.slice (some ⟨g_17, 0, none⟩) 1 1) ?_
  refine SL.nil ?_
  refine CW.seq ?_
  refine CW.region ?_
  refine SL.v (.slice (some ⟨g_17, 0, none⟩) 1 1) ?_
  refine SL.call (f := 14) (args := #[.slice (some ⟨g_17, 0, none⟩) 1 1]) (w1 := w_18) rfl rfl (by kernel_rfl) (fmt_walk (l := [flagZ c.clean.kept]) (rd_new (hs_19.pt_at (i := 2) rfl) rfl rfl) (Nat.le_refl _) (hT.gr hs_19.gr)) ?_
  rintro x w_20 ⟨rfl, hc_21⟩
  refine ⟨.string (strOf (fmtR [flagZ c.clean.kept])), rfl, ?_⟩
  have hs_22 := hs_19.grow hc_21
  refine SL.v (.string ⟨#[34, 113]⟩) ?_
  refine SL.cat (a := strOf (fmtR [flagZ c.clean.kept])) (b := ⟨#[34, 113]⟩) (p := 6) (q := 2) (r := 8) rfl rfl rfl (by kernel_rfl) (by kernel_rfl) (fmt_sz [flagZ c.clean.kept] 1 (Nat.le_refl _)) (show (⟨#[34, 113]⟩ : ByteArray).size ≤ 2 from Nat.le_refl 2) (by kernel_rfl) (by kernel_rfl) rfl (fun s_23 he_25 hz_24 => ?_)
  refine SL.v (.string s_23) ?_
  refine SL.v (.bool true) ?_
  refine SL.nil ?_
  refine CW.ret ?_
  repeat with_reducible first | refine PThen.ret ?_ | refine PBlock.ret ?_
  refine PRet.tmp2 (t := 4) (u := 5) (v := .string s_23) (v' := .bool true) rfl rfl rfl (by kernel_rfl) (by kernel_rfl) ?_
  exact ⟨by rw [he_25], hs_22.gr⟩
set_option maxRecDepth 100000 in
set_option maxHeartbeats 4000000 in
theorem set_4 (c : Cor) (w : World) (hok : c.Ok) (hT : tabT w) : Calls Tryd.prog 5 #[.agg (cvA c), .string ⟨#[34, 112]⟩] w fun e w' => e = .returned (.tuple #[.string (strOf (fmtR ([60 + c.clean.level, flagZ (!c.clean.eight)])) ++ ⟨#[34, 112]⟩), .bool true]) ∧ Gr w w' := by
  have hcm := hok.clean.modes
  have hcl := clean_nice hok
  have hf1 := flag_in c.clean.stream
  have hf2 := flag_in (!c.clean.stream)
  refine calls_sx (n := 89) (args := [.agg (cvA c), .string ⟨#[34, 112]⟩]) Tryd.func5 rfl rfl rfl ?_
  have hs0 := SH.none w
  refine CW.seq ?_
  refine CW.region ?_
  refine SL.newH (mk := fun g => .pointer (some ⟨g, 0, none⟩)) (C := (cvA c)) (T := 43) hs0 rfl rfl (by kernel_rfl) (fun g_1 w_2 hs_3 => ?_)
  have hs_3 : SH [] w w_2 [pt g_1 (cvA c) 43] := hs_3
  refine SL.v (.string ⟨#[]⟩) ?_
  refine SL.v (.bool false) ?_
  refine SL.nil ?_
  refine CW.seq ?_
  refine CW.region ?_
  refine SL.load (g := g_1) (off := 0) (v := .agg (cvA c)) rfl rfl rfl (by kernel_rfl) (hs_3.pt_at (i := 0) rfl) (by kernel_rfl) ?_
  refine SL.call (f := 11) (args := #[.agg (cvA c)]) (w1 := w_2) rfl rfl (by kernel_rfl) (clean_any c w_2 hok) ?_
  rintro x w_4 ⟨rfl, hc_5⟩
  refine ⟨.agg (cvA c.clean), rfl, ?_⟩
  have hs_6 := hs_3.grow hc_5
  refine SL.storeH (i := 0) (g := g_1) (off := 0) (v := .agg (cvA c.clean)) (L' := [pt g_1 (cvA c.clean) 43]) hs_6 rfl rfl rfl (by kernel_rfl) (by kernel_rfl) rfl (by kernel_rfl) (by kernel_rfl) rfl (by kernel_rfl) rfl (fun w_7 hs_8 => ?_)
  refine SL.nil ?_
  refine CW.seq ?_
  refine CW.region ?_
  refine SL.v (.pointer (some ⟨g_1, 13, none⟩)) ?_
  refine SL.v (.pointer (some ⟨g_1, 17, none⟩)) ?_
  refine SL.load (g := g_1) (off := 17) (v := .agg (qStJ_0 c)) rfl rfl rfl (by kernel_rfl) (hs_8.pt_at (i := 0) rfl) (by kernel_rfl) ?_
  refine SL.newH (mk := fun g => .pointer (some ⟨g, 0, none⟩)) (C := (qStJ_1)) (T := 29) hs_8 rfl rfl (by kernel_rfl) (fun g_9 w_10 hs_11 => ?_)
  have hs_11 : SH [] w w_10 [pt g_1 (cvA c.clean) 43, pt g_9 (qStJ_1) 29] := hs_11
  refine SL.storeH (i := 1) (g := g_9) (off := 0) (v := .agg (qStJ_0 c)) (L' := [pt g_1 (cvA c.clean) 43, pt g_9 (qStJ_0 c) 29]) hs_11 rfl rfl rfl (by kernel_rfl) (by kernel_rfl) rfl (by kernel_rfl) (by kernel_rfl) rfl (by kernel_rfl) rfl (fun w_12 hs_13 => ?_)
  refine SL.nil ?_
  refine CW.seq ?_
  refine CW.region ?_
  refine SL.v (.slice none 0 0) ?_
  refine SL.nil ?_
  refine CW.seq ?_
  refine CW.seq ?_
  refine CW.region ?_
  refine SL.v (.string ⟨#[34, 112]⟩) ?_
  refine SL.nil ?_
  refine CW.block ?_
  refine CW.seq ?_
  refine CW.region ?_
  refine SL.val (v := .bool false) (w' := w_12) rfl rfl (run_streqB (a := ⟨#[34, 112]⟩) (b := ⟨#[109]⟩) (c := false) rfl (by kernel_rfl) (by kernel_rfl) (by kernel_rfl)) ?_
  refine SL.v (.bool false) ?_
  refine SL.nil ?_
  refine CW.cond_false (by kernel_rfl) ?_
  refine CW.seq ?_
  refine CW.region ?_
  refine SL.val (v := .bool false) (w' := w_12) rfl rfl (run_streqB (a := ⟨#[34, 112]⟩) (b := ⟨#[114]⟩) (c := false) rfl (by kernel_rfl) (by kernel_rfl) (by kernel_rfl)) ?_
  refine SL.v (.bool false) ?_
  refine SL.nil ?_
  refine CW.cond_false (by kernel_rfl) ?_
  refine CW.seq ?_
  refine CW.region ?_
  refine SL.val (v := .bool false) (w' := w_12) rfl rfl (run_streqB (a := ⟨#[34, 112]⟩) (b := ⟨#[115]⟩) (c := false) rfl (by kernel_rfl) (by kernel_rfl) (by kernel_rfl)) ?_
  refine SL.v (.bool false) ?_
  refine SL.nil ?_
  refine CW.cond_false (by kernel_rfl) ?_
  refine CW.seq ?_
  refine CW.region ?_
  refine SL.val (v := .bool false) (w' := w_12) rfl rfl (run_streqB (a := ⟨#[34, 112]⟩) (b := ⟨#[34, 113]⟩) (c := false) rfl (by kernel_rfl) (by kernel_rfl) (by kernel_rfl)) ?_
  refine SL.v (.bool false) ?_
  refine SL.nil ?_
  refine CW.cond_false (by kernel_rfl) ?_
  refine CW.seq ?_
  refine CW.region ?_
  refine SL.val (v := .bool true) (w' := w_12) rfl rfl (run_streqB (a := ⟨#[34, 112]⟩) (b := ⟨#[34, 112]⟩) (c := true) rfl (by kernel_rfl) (by kernel_rfl) (by kernel_rfl)) ?_
  refine SL.v (.bool true) ?_
  refine SL.nil ?_
  refine CW.cond_true (by kernel_rfl) ?_
  have HGR : GrL [fun v _ => v = .pointer (some ⟨g_1, 22, none⟩), fun v _ => v = .int .i64 c.clean.level, fun v _ => v = .int .i64 (60 + c.clean.level), fun v _ => v = .pointer (some ⟨g_1, 23, none⟩), fun v _ => v = .bool c.clean.eight, fun v _ => v = .bool (!c.clean.eight), fun v _ => v = .int .i64 (flagZ (!c.clean.eight))] := ⟨fun _ _ _ _ h => h, ⟨fun _ _ _ _ h => h, ⟨fun _ _ _ _ h => h, ⟨fun _ _ _ _ h => h, ⟨fun _ _ _ _ h => h, ⟨fun _ _ _ _ h => h, ⟨fun _ _ _ _ h => h, trivial⟩⟩⟩⟩⟩⟩⟩
  refine CW.draw 7 (FW [fun v _ => v = .pointer (some ⟨g_1, 22, none⟩), fun v _ => v = .int .i64 c.clean.level, fun v _ => v = .int .i64 (60 + c.clean.level), fun v _ => v = .pointer (some ⟨g_1, 23, none⟩), fun v _ => v = .bool c.clean.eight, fun v _ => v = .bool (!c.clean.eight), fun v _ => v = .int .i64 (flagZ (!c.clean.eight))]) (fun W => Gr w_12 W) (by kernel_rfl) (by kernel_rfl) (by kernel_rfl) (by kernel_rfl) (by kernel_rfl) (Gr.refl _).drew ?_ ?_
  · refine ⟨?_, ⟨?_, ⟨?_, ⟨?_, ⟨?_, ⟨?_, ⟨?_, trivial⟩⟩⟩⟩⟩⟩⟩
    · intro L ys W hB hF hP K hK
      show OpE _ _ _ W K
      exact OpE.val (.pointer (some ⟨g_1, 22, none⟩)) W (by kernel_rfl) (hK _ W hB rfl (fun _ _ h => h))
    · intro L ys W hB hF hP K hK
      show OpE _ _ _ W K
      exact OpE.known (j := 0) (v := .pointer (some ⟨g_1, 22, none⟩)) (hF 0 (hP.1 rfl)) (OpE.load (g := g_1) (off := 22) (v := .int .i64 c.clean.level) rfl (by kernel_rfl) ((hs_13.grow hB).pt_at (i := 0) rfl) (by kernel_rfl) (hK _ W hB rfl (fun _ _ h => h)))
    · intro L ys W hB hF hP K hK
      show OpE _ _ _ W K
      exact OpE.known (j := 1) (v := .int .i64 c.clean.level) (hF 1 (hP.1 rfl)) (OpE.val (.int .i64 (60 + c.clean.level)) W (by have hw : IntKind.i64.wrap (60 + c.clean.level) = 60 + c.clean.level := IntWalk.i64_in _ (by omega); exact run_eqv (by kernel_rfl) (congrArg (fun z => Value.int .i64 z) hw)) (hK _ W hB rfl (fun _ _ h => h)))
    · intro L ys W hB hF hP K hK
      show OpE _ _ _ W K
      exact OpE.val (.pointer (some ⟨g_1, 23, none⟩)) W (by kernel_rfl) (hK _ W hB rfl (fun _ _ h => h))
    · intro L ys W hB hF hP K hK
      show OpE _ _ _ W K
      exact OpE.known (j := 3) (v := .pointer (some ⟨g_1, 23, none⟩)) (hF 3 (hP.1 rfl)) (OpE.load (g := g_1) (off := 23) (v := .bool c.clean.eight) rfl (by kernel_rfl) ((hs_13.grow hB).pt_at (i := 0) rfl) (by kernel_rfl) (hK _ W hB rfl (fun _ _ h => h)))
    · intro L ys W hB hF hP K hK
      show OpE _ _ _ W K
      exact OpE.known (j := 4) (v := .bool c.clean.eight) (hF 4 (hP.1 rfl)) (OpE.val (.bool (!c.clean.eight)) W (by kernel_rfl) (hK _ W hB rfl (fun _ _ h => h)))
    · intro L ys W hB hF hP K hK
      show OpE _ _ _ W K
      exact OpE.known (j := 5) (v := .bool (!c.clean.eight)) (hF 5 (hP.1 rfl)) (OpE.call 13 #[.bool (!c.clean.eight)] W _ (by kernel_rfl) (flag_any (!c.clean.eight) W) (fun x w' hx => by obtain ⟨rfl, hg⟩ := hx; exact ⟨_, rfl, hK _ w' (hB.trans hg) rfl (fun _ _ h => FW.gr HGR hg h)⟩))
  · intro ys_17 w_14 hs_15 hF_16
    have hg_18 := hs_15
    have hs_15 : SH [] w w_14 [pt g_1 (cvA c.clean) 43, pt g_9 (qStJ_0 c) 29] := hs_13.grow hg_18
    refine SL.knownY (j := 2) (v := .int .i64 (60 + c.clean.level)) (show ys_17 2 = .int .i64 (60 + c.clean.level) from hF_16 2 (by decide)) (SL.knownY (j := 6) (v := .int .i64 (flagZ (!c.clean.eight))) (show ys_17 6 = .int .i64 (flagZ (!c.clean.eight)) from hF_16 6 (by decide)) (?_))
    clear hF_16 HGR
    refine SL.newH (mk := fun g => .slice (some ⟨g, 0, none⟩) 2 2) (C := #[.int .i64 (60 + c.clean.level), .int .i64 (flagZ (!c.clean.eight))]) (T := 3) hs_15 rfl rfl (by kernel_rfl) (fun g_19 w_20 hs_21 => ?_)
    have hs_21 : SH [] w w_20 [pt g_1 (cvA c.clean) 43, pt g_9 (qStJ_0 c) 29, pt g_19 #[.int .i64 (60 + c.clean.level), .int .i64 (flagZ (!c.clean.eight))] 3] := hs_21
    refine SL.v (.slice (some ⟨g_19, 0, none⟩) 2 2) ?_
    refine SL.nil ?_
    refine CW.seq ?_
    refine CW.region ?_
    refine SL.v (.slice (some ⟨g_19, 0, none⟩) 2 2) ?_
    refine SL.call (f := 14) (args := #[.slice (some ⟨g_19, 0, none⟩) 2 2]) (w1 := w_20) rfl rfl (by kernel_rfl) (fmt_walk (l := [60 + c.clean.level, flagZ (!c.clean.eight)]) (rd_new (hs_21.pt_at (i := 2) rfl) rfl rfl) (Nat.le_refl _) (hT.gr hs_21.gr)) ?_
    rintro x w_22 ⟨rfl, hc_23⟩
    refine ⟨.string (strOf (fmtR [60 + c.clean.level, flagZ (!c.clean.eight)])), rfl, ?_⟩
    have hs_24 := hs_21.grow hc_23
    refine SL.v (.string ⟨#[34, 112]⟩) ?_
    refine SL.cat (a := strOf (fmtR [60 + c.clean.level, flagZ (!c.clean.eight)])) (b := ⟨#[34, 112]⟩) (p := 12) (q := 2) (r := 14) rfl rfl rfl (by kernel_rfl) (by kernel_rfl) (fmt_sz [60 + c.clean.level, flagZ (!c.clean.eight)] 2 (Nat.le_refl _)) (show (⟨#[34, 112]⟩ : ByteArray).size ≤ 2 from Nat.le_refl 2) (by kernel_rfl) (by kernel_rfl) rfl (fun s_25 he_27 hz_26 => ?_)
    refine SL.v (.string s_25) ?_
    refine SL.v (.bool true) ?_
    refine SL.nil ?_
    refine CW.ret ?_
    repeat with_reducible first | refine PThen.ret ?_ | refine PBlock.ret ?_
    refine PRet.tmp2 (t := 4) (u := 5) (v := .string s_25) (v' := .bool true) rfl rfl rfl (by kernel_rfl) (by kernel_rfl) ?_
    exact ⟨by rw [he_27], hs_24.gr⟩
set_option maxRecDepth 100000 in
set_option maxHeartbeats 4000000 in
theorem set_5 (c : Cor) (w : World) (hok : c.Ok) (hT : tabT w) : Calls Tryd.prog 5 #[.agg (cvA c), .string ⟨#[42, 120]⟩] w fun e w' => e = .returned (.tuple #[.string (strOf (fmtR ([2 - flagZ c.clean.stream])) ++ ⟨#[42, 120]⟩), .bool true]) ∧ Gr w w' := by
  have hcm := hok.clean.modes
  have hcl := clean_nice hok
  have hf1 := flag_in c.clean.stream
  have hf2 := flag_in (!c.clean.stream)
  refine calls_sx (n := 89) (args := [.agg (cvA c), .string ⟨#[42, 120]⟩]) Tryd.func5 rfl rfl rfl ?_
  have hs0 := SH.none w
  refine CW.seq ?_
  refine CW.region ?_
  refine SL.newH (mk := fun g => .pointer (some ⟨g, 0, none⟩)) (C := (cvA c)) (T := 43) hs0 rfl rfl (by kernel_rfl) (fun g_1 w_2 hs_3 => ?_)
  have hs_3 : SH [] w w_2 [pt g_1 (cvA c) 43] := hs_3
  refine SL.v (.string ⟨#[]⟩) ?_
  refine SL.v (.bool false) ?_
  refine SL.nil ?_
  refine CW.seq ?_
  refine CW.region ?_
  refine SL.load (g := g_1) (off := 0) (v := .agg (cvA c)) rfl rfl rfl (by kernel_rfl) (hs_3.pt_at (i := 0) rfl) (by kernel_rfl) ?_
  refine SL.call (f := 11) (args := #[.agg (cvA c)]) (w1 := w_2) rfl rfl (by kernel_rfl) (clean_any c w_2 hok) ?_
  rintro x w_4 ⟨rfl, hc_5⟩
  refine ⟨.agg (cvA c.clean), rfl, ?_⟩
  have hs_6 := hs_3.grow hc_5
  refine SL.storeH (i := 0) (g := g_1) (off := 0) (v := .agg (cvA c.clean)) (L' := [pt g_1 (cvA c.clean) 43]) hs_6 rfl rfl rfl (by kernel_rfl) (by kernel_rfl) rfl (by kernel_rfl) (by kernel_rfl) rfl (by kernel_rfl) rfl (fun w_7 hs_8 => ?_)
  refine SL.nil ?_
  refine CW.seq ?_
  refine CW.region ?_
  refine SL.v (.pointer (some ⟨g_1, 13, none⟩)) ?_
  refine SL.v (.pointer (some ⟨g_1, 17, none⟩)) ?_
  refine SL.load (g := g_1) (off := 17) (v := .agg (qStJ_0 c)) rfl rfl rfl (by kernel_rfl) (hs_8.pt_at (i := 0) rfl) (by kernel_rfl) ?_
  refine SL.newH (mk := fun g => .pointer (some ⟨g, 0, none⟩)) (C := (qStJ_1)) (T := 29) hs_8 rfl rfl (by kernel_rfl) (fun g_9 w_10 hs_11 => ?_)
  have hs_11 : SH [] w w_10 [pt g_1 (cvA c.clean) 43, pt g_9 (qStJ_1) 29] := hs_11
  refine SL.storeH (i := 1) (g := g_9) (off := 0) (v := .agg (qStJ_0 c)) (L' := [pt g_1 (cvA c.clean) 43, pt g_9 (qStJ_0 c) 29]) hs_11 rfl rfl rfl (by kernel_rfl) (by kernel_rfl) rfl (by kernel_rfl) (by kernel_rfl) rfl (by kernel_rfl) rfl (fun w_12 hs_13 => ?_)
  refine SL.nil ?_
  refine CW.seq ?_
  refine CW.region ?_
  refine SL.v (.slice none 0 0) ?_
  refine SL.nil ?_
  refine CW.seq ?_
  refine CW.seq ?_
  refine CW.region ?_
  refine SL.v (.string ⟨#[42, 120]⟩) ?_
  refine SL.nil ?_
  refine CW.block ?_
  refine CW.seq ?_
  refine CW.region ?_
  refine SL.val (v := .bool false) (w' := w_12) rfl rfl (run_streqB (a := ⟨#[42, 120]⟩) (b := ⟨#[109]⟩) (c := false) rfl (by kernel_rfl) (by kernel_rfl) (by kernel_rfl)) ?_
  refine SL.v (.bool false) ?_
  refine SL.nil ?_
  refine CW.cond_false (by kernel_rfl) ?_
  refine CW.seq ?_
  refine CW.region ?_
  refine SL.val (v := .bool false) (w' := w_12) rfl rfl (run_streqB (a := ⟨#[42, 120]⟩) (b := ⟨#[114]⟩) (c := false) rfl (by kernel_rfl) (by kernel_rfl) (by kernel_rfl)) ?_
  refine SL.v (.bool false) ?_
  refine SL.nil ?_
  refine CW.cond_false (by kernel_rfl) ?_
  refine CW.seq ?_
  refine CW.region ?_
  refine SL.val (v := .bool false) (w' := w_12) rfl rfl (run_streqB (a := ⟨#[42, 120]⟩) (b := ⟨#[115]⟩) (c := false) rfl (by kernel_rfl) (by kernel_rfl) (by kernel_rfl)) ?_
  refine SL.v (.bool false) ?_
  refine SL.nil ?_
  refine CW.cond_false (by kernel_rfl) ?_
  refine CW.seq ?_
  refine CW.region ?_
  refine SL.val (v := .bool false) (w' := w_12) rfl rfl (run_streqB (a := ⟨#[42, 120]⟩) (b := ⟨#[34, 113]⟩) (c := false) rfl (by kernel_rfl) (by kernel_rfl) (by kernel_rfl)) ?_
  refine SL.v (.bool false) ?_
  refine SL.nil ?_
  refine CW.cond_false (by kernel_rfl) ?_
  refine CW.seq ?_
  refine CW.region ?_
  refine SL.val (v := .bool false) (w' := w_12) rfl rfl (run_streqB (a := ⟨#[42, 120]⟩) (b := ⟨#[34, 112]⟩) (c := false) rfl (by kernel_rfl) (by kernel_rfl) (by kernel_rfl)) ?_
  refine SL.v (.bool false) ?_
  refine SL.nil ?_
  refine CW.cond_false (by kernel_rfl) ?_
  refine CW.seq ?_
  refine CW.region ?_
  refine SL.val (v := .bool true) (w' := w_12) rfl rfl (run_streqB (a := ⟨#[42, 120]⟩) (b := ⟨#[42, 120]⟩) (c := true) rfl (by kernel_rfl) (by kernel_rfl) (by kernel_rfl)) ?_
  refine SL.v (.bool true) ?_
  refine SL.nil ?_
  refine CW.cond_true (by kernel_rfl) ?_
  refine CW.region ?_
  refine SL.v (.pointer (some ⟨g_1, 24, none⟩)) ?_
  refine SL.load (g := g_1) (off := 24) (v := .bool c.clean.stream) rfl rfl rfl (by kernel_rfl) (hs_13.pt_at (i := 0) rfl) (by kernel_rfl) ?_
  refine SL.call (f := 13) (args := #[.bool c.clean.stream]) (w1 := w_12) rfl rfl (by kernel_rfl) (flag_any c.clean.stream w_12) ?_
  rintro x w_14 ⟨rfl, hc_15⟩
  refine ⟨.int .i64 (flagZ c.clean.stream), rfl, ?_⟩
  have hs_16 := hs_13.grow hc_15
  refine SL.val (v := .int .i64 (2 - (flagZ c.clean.stream))) (w' := w_14) rfl rfl (by have hw : IntKind.i64.wrap (2 - (flagZ c.clean.stream)) = 2 - (flagZ c.clean.stream) := IntWalk.i64_in _ (by omega); exact run_eqv (by kernel_rfl) (congrArg (fun z => Value.int .i64 z) hw)) ?_
  refine SL.newH (mk := fun g => .slice (some ⟨g, 0, none⟩) 1 1) (C := #[.int .i64 (2 - (flagZ c.clean.stream))]) (T := 3) hs_16 rfl rfl (by kernel_rfl) (fun g_17 w_18 hs_19 => ?_)
  have hs_19 : SH [] w w_18 [pt g_1 (cvA c.clean) 43, pt g_9 (qStJ_0 c) 29, pt g_17 #[.int .i64 (2 - (flagZ c.clean.stream))] 3] := hs_19
  refine SL.v (.slice (some ⟨g_17, 0, none⟩) 1 1) ?_
  refine SL.nil ?_
  refine CW.seq ?_
  refine CW.region ?_
  refine SL.v (.slice (some ⟨g_17, 0, none⟩) 1 1) ?_
  refine SL.call (f := 14) (args := #[.slice (some ⟨g_17, 0, none⟩) 1 1]) (w1 := w_18) rfl rfl (by kernel_rfl) (fmt_walk (l := [2 - (flagZ c.clean.stream)]) (rd_new (hs_19.pt_at (i := 2) rfl) rfl rfl) (Nat.le_refl _) (hT.gr hs_19.gr)) ?_
  rintro x w_20 ⟨rfl, hc_21⟩
  refine ⟨.string (strOf (fmtR [2 - (flagZ c.clean.stream)])), rfl, ?_⟩
  have hs_22 := hs_19.grow hc_21
  refine SL.v (.string ⟨#[42, 120]⟩) ?_
  refine SL.cat (a := strOf (fmtR [2 - (flagZ c.clean.stream)])) (b := ⟨#[42, 120]⟩) (p := 6) (q := 2) (r := 8) rfl rfl rfl (by kernel_rfl) (by kernel_rfl) (fmt_sz [2 - (flagZ c.clean.stream)] 1 (Nat.le_refl _)) (show (⟨#[42, 120]⟩ : ByteArray).size ≤ 2 from Nat.le_refl 2) (by kernel_rfl) (by kernel_rfl) rfl (fun s_23 he_25 hz_24 => ?_)
  refine SL.v (.string s_23) ?_
  refine SL.v (.bool true) ?_
  refine SL.nil ?_
  refine CW.ret ?_
  repeat with_reducible first | refine PThen.ret ?_ | refine PBlock.ret ?_
  refine PRet.tmp2 (t := 4) (u := 5) (v := .string s_23) (v' := .bool true) rfl rfl rfl (by kernel_rfl) (by kernel_rfl) ?_
  exact ⟨by rw [he_25], hs_22.gr⟩
set_option maxRecDepth 100000 in
set_option maxHeartbeats 4000000 in
theorem set_6 (c : Cor) (w : World) (hok : c.Ok) (hT : tabT w) : Calls Tryd.prog 5 #[.agg (cvA c), .string ⟨#[116]⟩] w fun e w' => e = .returned (.tuple #[.string (strOf (fmtR ([c.clean.pb])) ++ ⟨#[116]⟩), .bool true]) ∧ Gr w w' := by
  have hcm := hok.clean.modes
  have hcl := clean_nice hok
  have hf1 := flag_in c.clean.stream
  have hf2 := flag_in (!c.clean.stream)
  refine calls_sx (n := 89) (args := [.agg (cvA c), .string ⟨#[116]⟩]) Tryd.func5 rfl rfl rfl ?_
  have hs0 := SH.none w
  refine CW.seq ?_
  refine CW.region ?_
  refine SL.newH (mk := fun g => .pointer (some ⟨g, 0, none⟩)) (C := (cvA c)) (T := 43) hs0 rfl rfl (by kernel_rfl) (fun g_1 w_2 hs_3 => ?_)
  have hs_3 : SH [] w w_2 [pt g_1 (cvA c) 43] := hs_3
  refine SL.v (.string ⟨#[]⟩) ?_
  refine SL.v (.bool false) ?_
  refine SL.nil ?_
  refine CW.seq ?_
  refine CW.region ?_
  refine SL.load (g := g_1) (off := 0) (v := .agg (cvA c)) rfl rfl rfl (by kernel_rfl) (hs_3.pt_at (i := 0) rfl) (by kernel_rfl) ?_
  refine SL.call (f := 11) (args := #[.agg (cvA c)]) (w1 := w_2) rfl rfl (by kernel_rfl) (clean_any c w_2 hok) ?_
  rintro x w_4 ⟨rfl, hc_5⟩
  refine ⟨.agg (cvA c.clean), rfl, ?_⟩
  have hs_6 := hs_3.grow hc_5
  refine SL.storeH (i := 0) (g := g_1) (off := 0) (v := .agg (cvA c.clean)) (L' := [pt g_1 (cvA c.clean) 43]) hs_6 rfl rfl rfl (by kernel_rfl) (by kernel_rfl) rfl (by kernel_rfl) (by kernel_rfl) rfl (by kernel_rfl) rfl (fun w_7 hs_8 => ?_)
  refine SL.nil ?_
  refine CW.seq ?_
  refine CW.region ?_
  refine SL.v (.pointer (some ⟨g_1, 13, none⟩)) ?_
  refine SL.v (.pointer (some ⟨g_1, 17, none⟩)) ?_
  refine SL.load (g := g_1) (off := 17) (v := .agg (qStJ_0 c)) rfl rfl rfl (by kernel_rfl) (hs_8.pt_at (i := 0) rfl) (by kernel_rfl) ?_
  refine SL.newH (mk := fun g => .pointer (some ⟨g, 0, none⟩)) (C := (qStJ_1)) (T := 29) hs_8 rfl rfl (by kernel_rfl) (fun g_9 w_10 hs_11 => ?_)
  have hs_11 : SH [] w w_10 [pt g_1 (cvA c.clean) 43, pt g_9 (qStJ_1) 29] := hs_11
  refine SL.storeH (i := 1) (g := g_9) (off := 0) (v := .agg (qStJ_0 c)) (L' := [pt g_1 (cvA c.clean) 43, pt g_9 (qStJ_0 c) 29]) hs_11 rfl rfl rfl (by kernel_rfl) (by kernel_rfl) rfl (by kernel_rfl) (by kernel_rfl) rfl (by kernel_rfl) rfl (fun w_12 hs_13 => ?_)
  refine SL.nil ?_
  refine CW.seq ?_
  refine CW.region ?_
  refine SL.v (.slice none 0 0) ?_
  refine SL.nil ?_
  refine CW.seq ?_
  refine CW.seq ?_
  refine CW.region ?_
  refine SL.v (.string ⟨#[116]⟩) ?_
  refine SL.nil ?_
  refine CW.block ?_
  refine CW.seq ?_
  refine CW.region ?_
  refine SL.val (v := .bool false) (w' := w_12) rfl rfl (run_streqB (a := ⟨#[116]⟩) (b := ⟨#[109]⟩) (c := false) rfl (by kernel_rfl) (by kernel_rfl) (by kernel_rfl)) ?_
  refine SL.v (.bool false) ?_
  refine SL.nil ?_
  refine CW.cond_false (by kernel_rfl) ?_
  refine CW.seq ?_
  refine CW.region ?_
  refine SL.val (v := .bool false) (w' := w_12) rfl rfl (run_streqB (a := ⟨#[116]⟩) (b := ⟨#[114]⟩) (c := false) rfl (by kernel_rfl) (by kernel_rfl) (by kernel_rfl)) ?_
  refine SL.v (.bool false) ?_
  refine SL.nil ?_
  refine CW.cond_false (by kernel_rfl) ?_
  refine CW.seq ?_
  refine CW.region ?_
  refine SL.val (v := .bool false) (w' := w_12) rfl rfl (run_streqB (a := ⟨#[116]⟩) (b := ⟨#[115]⟩) (c := false) rfl (by kernel_rfl) (by kernel_rfl) (by kernel_rfl)) ?_
  refine SL.v (.bool false) ?_
  refine SL.nil ?_
  refine CW.cond_false (by kernel_rfl) ?_
  refine CW.seq ?_
  refine CW.region ?_
  refine SL.val (v := .bool false) (w' := w_12) rfl rfl (run_streqB (a := ⟨#[116]⟩) (b := ⟨#[34, 113]⟩) (c := false) rfl (by kernel_rfl) (by kernel_rfl) (by kernel_rfl)) ?_
  refine SL.v (.bool false) ?_
  refine SL.nil ?_
  refine CW.cond_false (by kernel_rfl) ?_
  refine CW.seq ?_
  refine CW.region ?_
  refine SL.val (v := .bool false) (w' := w_12) rfl rfl (run_streqB (a := ⟨#[116]⟩) (b := ⟨#[34, 112]⟩) (c := false) rfl (by kernel_rfl) (by kernel_rfl) (by kernel_rfl)) ?_
  refine SL.v (.bool false) ?_
  refine SL.nil ?_
  refine CW.cond_false (by kernel_rfl) ?_
  refine CW.seq ?_
  refine CW.region ?_
  refine SL.val (v := .bool false) (w' := w_12) rfl rfl (run_streqB (a := ⟨#[116]⟩) (b := ⟨#[42, 120]⟩) (c := false) rfl (by kernel_rfl) (by kernel_rfl) (by kernel_rfl)) ?_
  refine SL.v (.bool false) ?_
  refine SL.nil ?_
  refine CW.cond_false (by kernel_rfl) ?_
  refine CW.seq ?_
  refine CW.region ?_
  refine SL.val (v := .bool true) (w' := w_12) rfl rfl (run_streqB (a := ⟨#[116]⟩) (b := ⟨#[116]⟩) (c := true) rfl (by kernel_rfl) (by kernel_rfl) (by kernel_rfl)) ?_
  refine SL.v (.bool true) ?_
  refine SL.nil ?_
  refine CW.cond_true (by kernel_rfl) ?_
  refine CW.region ?_
  refine SL.v (.pointer (some ⟨g_1, 13, none⟩)) ?_
  refine SL.v (.pointer (some ⟨g_1, 13, none⟩)) ?_
  refine SL.v (.pointer (some ⟨g_1, 15, none⟩)) ?_
  refine SL.load (g := g_1) (off := 15) (v := .int .i64 c.clean.pb) rfl rfl rfl (by kernel_rfl) (hs_13.pt_at (i := 0) rfl) (by kernel_rfl) ?_
  refine SL.newH (mk := fun g => .slice (some ⟨g, 0, none⟩) 1 1) (C := #[.int .i64 c.clean.pb]) (T := 3) hs_13 rfl rfl (by kernel_rfl) (fun g_14 w_15 hs_16 => ?_)
  have hs_16 : SH [] w w_15 [pt g_1 (cvA c.clean) 43, pt g_9 (qStJ_0 c) 29, pt g_14 #[.int .i64 c.clean.pb] 3] := hs_16
  refine SL.v (.slice (some ⟨g_14, 0, none⟩) 1 1) ?_
  refine SL.nil ?_
  refine CW.seq ?_
  refine CW.region ?_
  refine SL.v (.slice (some ⟨g_14, 0, none⟩) 1 1) ?_
  refine SL.call (f := 14) (args := #[.slice (some ⟨g_14, 0, none⟩) 1 1]) (w1 := w_15) rfl rfl (by kernel_rfl) (fmt_walk (l := [c.clean.pb]) (rd_new (hs_16.pt_at (i := 2) rfl) rfl rfl) (Nat.le_refl _) (hT.gr hs_16.gr)) ?_
  rintro x w_17 ⟨rfl, hc_18⟩
  refine ⟨.string (strOf (fmtR [c.clean.pb])), rfl, ?_⟩
  have hs_19 := hs_16.grow hc_18
  refine SL.v (.string ⟨#[116]⟩) ?_
  refine SL.cat (a := strOf (fmtR [c.clean.pb])) (b := ⟨#[116]⟩) (p := 6) (q := 1) (r := 7) rfl rfl rfl (by kernel_rfl) (by kernel_rfl) (fmt_sz [c.clean.pb] 1 (Nat.le_refl _)) (show (⟨#[116]⟩ : ByteArray).size ≤ 1 from Nat.le_refl 1) (by kernel_rfl) (by kernel_rfl) rfl (fun s_20 he_22 hz_21 => ?_)
  refine SL.v (.string s_20) ?_
  refine SL.v (.bool true) ?_
  refine SL.nil ?_
  refine CW.ret ?_
  repeat with_reducible first | refine PThen.ret ?_ | refine PBlock.ret ?_
  refine PRet.tmp2 (t := 4) (u := 5) (v := .string s_20) (v' := .bool true) rfl rfl rfl (by kernel_rfl) (by kernel_rfl) ?_
  exact ⟨by rw [he_22], hs_19.gr⟩
set_option maxRecDepth 100000 in
set_option maxHeartbeats 4000000 in
theorem set_7 (c : Cor) (w : World) (hok : c.Ok) (hT : tabT w) : Calls Tryd.prog 5 #[.agg (cvA c), .string ⟨#[36, 124]⟩] w fun e w' => e = .returned (.tuple #[.string (strOf (fmtR ([c.clean.pr])) ++ ⟨#[36, 124]⟩), .bool true]) ∧ Gr w w' := by
  have hcm := hok.clean.modes
  have hcl := clean_nice hok
  have hf1 := flag_in c.clean.stream
  have hf2 := flag_in (!c.clean.stream)
  refine calls_sx (n := 89) (args := [.agg (cvA c), .string ⟨#[36, 124]⟩]) Tryd.func5 rfl rfl rfl ?_
  have hs0 := SH.none w
  refine CW.seq ?_
  refine CW.region ?_
  refine SL.newH (mk := fun g => .pointer (some ⟨g, 0, none⟩)) (C := (cvA c)) (T := 43) hs0 rfl rfl (by kernel_rfl) (fun g_1 w_2 hs_3 => ?_)
  have hs_3 : SH [] w w_2 [pt g_1 (cvA c) 43] := hs_3
  refine SL.v (.string ⟨#[]⟩) ?_
  refine SL.v (.bool false) ?_
  refine SL.nil ?_
  refine CW.seq ?_
  refine CW.region ?_
  refine SL.load (g := g_1) (off := 0) (v := .agg (cvA c)) rfl rfl rfl (by kernel_rfl) (hs_3.pt_at (i := 0) rfl) (by kernel_rfl) ?_
  refine SL.call (f := 11) (args := #[.agg (cvA c)]) (w1 := w_2) rfl rfl (by kernel_rfl) (clean_any c w_2 hok) ?_
  rintro x w_4 ⟨rfl, hc_5⟩
  refine ⟨.agg (cvA c.clean), rfl, ?_⟩
  have hs_6 := hs_3.grow hc_5
  refine SL.storeH (i := 0) (g := g_1) (off := 0) (v := .agg (cvA c.clean)) (L' := [pt g_1 (cvA c.clean) 43]) hs_6 rfl rfl rfl (by kernel_rfl) (by kernel_rfl) rfl (by kernel_rfl) (by kernel_rfl) rfl (by kernel_rfl) rfl (fun w_7 hs_8 => ?_)
  refine SL.nil ?_
  refine CW.seq ?_
  refine CW.region ?_
  refine SL.v (.pointer (some ⟨g_1, 13, none⟩)) ?_
  refine SL.v (.pointer (some ⟨g_1, 17, none⟩)) ?_
  refine SL.load (g := g_1) (off := 17) (v := .agg (qStJ_0 c)) rfl rfl rfl (by kernel_rfl) (hs_8.pt_at (i := 0) rfl) (by kernel_rfl) ?_
  refine SL.newH (mk := fun g => .pointer (some ⟨g, 0, none⟩)) (C := (qStJ_1)) (T := 29) hs_8 rfl rfl (by kernel_rfl) (fun g_9 w_10 hs_11 => ?_)
  have hs_11 : SH [] w w_10 [pt g_1 (cvA c.clean) 43, pt g_9 (qStJ_1) 29] := hs_11
  refine SL.storeH (i := 1) (g := g_9) (off := 0) (v := .agg (qStJ_0 c)) (L' := [pt g_1 (cvA c.clean) 43, pt g_9 (qStJ_0 c) 29]) hs_11 rfl rfl rfl (by kernel_rfl) (by kernel_rfl) rfl (by kernel_rfl) (by kernel_rfl) rfl (by kernel_rfl) rfl (fun w_12 hs_13 => ?_)
  refine SL.nil ?_
  refine CW.seq ?_
  refine CW.region ?_
  refine SL.v (.slice none 0 0) ?_
  refine SL.nil ?_
  refine CW.seq ?_
  refine CW.seq ?_
  refine CW.region ?_
  refine SL.v (.string ⟨#[36, 124]⟩) ?_
  refine SL.nil ?_
  refine CW.block ?_
  refine CW.seq ?_
  refine CW.region ?_
  refine SL.val (v := .bool false) (w' := w_12) rfl rfl (run_streqB (a := ⟨#[36, 124]⟩) (b := ⟨#[109]⟩) (c := false) rfl (by kernel_rfl) (by kernel_rfl) (by kernel_rfl)) ?_
  refine SL.v (.bool false) ?_
  refine SL.nil ?_
  refine CW.cond_false (by kernel_rfl) ?_
  refine CW.seq ?_
  refine CW.region ?_
  refine SL.val (v := .bool false) (w' := w_12) rfl rfl (run_streqB (a := ⟨#[36, 124]⟩) (b := ⟨#[114]⟩) (c := false) rfl (by kernel_rfl) (by kernel_rfl) (by kernel_rfl)) ?_
  refine SL.v (.bool false) ?_
  refine SL.nil ?_
  refine CW.cond_false (by kernel_rfl) ?_
  refine CW.seq ?_
  refine CW.region ?_
  refine SL.val (v := .bool false) (w' := w_12) rfl rfl (run_streqB (a := ⟨#[36, 124]⟩) (b := ⟨#[115]⟩) (c := false) rfl (by kernel_rfl) (by kernel_rfl) (by kernel_rfl)) ?_
  refine SL.v (.bool false) ?_
  refine SL.nil ?_
  refine CW.cond_false (by kernel_rfl) ?_
  refine CW.seq ?_
  refine CW.region ?_
  refine SL.val (v := .bool false) (w' := w_12) rfl rfl (run_streqB (a := ⟨#[36, 124]⟩) (b := ⟨#[34, 113]⟩) (c := false) rfl (by kernel_rfl) (by kernel_rfl) (by kernel_rfl)) ?_
  refine SL.v (.bool false) ?_
  refine SL.nil ?_
  refine CW.cond_false (by kernel_rfl) ?_
  refine CW.seq ?_
  refine CW.region ?_
  refine SL.val (v := .bool false) (w' := w_12) rfl rfl (run_streqB (a := ⟨#[36, 124]⟩) (b := ⟨#[34, 112]⟩) (c := false) rfl (by kernel_rfl) (by kernel_rfl) (by kernel_rfl)) ?_
  refine SL.v (.bool false) ?_
  refine SL.nil ?_
  refine CW.cond_false (by kernel_rfl) ?_
  refine CW.seq ?_
  refine CW.region ?_
  refine SL.val (v := .bool false) (w' := w_12) rfl rfl (run_streqB (a := ⟨#[36, 124]⟩) (b := ⟨#[42, 120]⟩) (c := false) rfl (by kernel_rfl) (by kernel_rfl) (by kernel_rfl)) ?_
  refine SL.v (.bool false) ?_
  refine SL.nil ?_
  refine CW.cond_false (by kernel_rfl) ?_
  refine CW.seq ?_
  refine CW.region ?_
  refine SL.val (v := .bool false) (w' := w_12) rfl rfl (run_streqB (a := ⟨#[36, 124]⟩) (b := ⟨#[116]⟩) (c := false) rfl (by kernel_rfl) (by kernel_rfl) (by kernel_rfl)) ?_
  refine SL.v (.bool false) ?_
  refine SL.nil ?_
  refine CW.cond_false (by kernel_rfl) ?_
  refine CW.seq ?_
  refine CW.region ?_
  refine SL.val (v := .bool true) (w' := w_12) rfl rfl (run_streqB (a := ⟨#[36, 124]⟩) (b := ⟨#[36, 124]⟩) (c := true) rfl (by kernel_rfl) (by kernel_rfl) (by kernel_rfl)) ?_
  refine SL.v (.bool true) ?_
  refine SL.nil ?_
  refine CW.cond_true (by kernel_rfl) ?_
  refine CW.region ?_
  refine SL.v (.pointer (some ⟨g_1, 13, none⟩)) ?_
  refine SL.v (.pointer (some ⟨g_1, 13, none⟩)) ?_
  refine SL.v (.pointer (some ⟨g_1, 16, none⟩)) ?_
  refine SL.load (g := g_1) (off := 16) (v := .int .i64 c.clean.pr) rfl rfl rfl (by kernel_rfl) (hs_13.pt_at (i := 0) rfl) (by kernel_rfl) ?_
  refine SL.newH (mk := fun g => .slice (some ⟨g, 0, none⟩) 1 1) (C := #[.int .i64 c.clean.pr]) (T := 3) hs_13 rfl rfl (by kernel_rfl) (fun g_14 w_15 hs_16 => ?_)
  have hs_16 : SH [] w w_15 [pt g_1 (cvA c.clean) 43, pt g_9 (qStJ_0 c) 29, pt g_14 #[.int .i64 c.clean.pr] 3] := hs_16
  refine SL.v (.slice (some ⟨g_14, 0, none⟩) 1 1) ?_
  refine SL.nil ?_
  refine CW.seq ?_
  refine CW.region ?_
  refine SL.v (.slice (some ⟨g_14, 0, none⟩) 1 1) ?_
  refine SL.call (f := 14) (args := #[.slice (some ⟨g_14, 0, none⟩) 1 1]) (w1 := w_15) rfl rfl (by kernel_rfl) (fmt_walk (l := [c.clean.pr]) (rd_new (hs_16.pt_at (i := 2) rfl) rfl rfl) (Nat.le_refl _) (hT.gr hs_16.gr)) ?_
  rintro x w_17 ⟨rfl, hc_18⟩
  refine ⟨.string (strOf (fmtR [c.clean.pr])), rfl, ?_⟩
  have hs_19 := hs_16.grow hc_18
  refine SL.v (.string ⟨#[36, 124]⟩) ?_
  refine SL.cat (a := strOf (fmtR [c.clean.pr])) (b := ⟨#[36, 124]⟩) (p := 6) (q := 2) (r := 8) rfl rfl rfl (by kernel_rfl) (by kernel_rfl) (fmt_sz [c.clean.pr] 1 (Nat.le_refl _)) (show (⟨#[36, 124]⟩ : ByteArray).size ≤ 2 from Nat.le_refl 2) (by kernel_rfl) (by kernel_rfl) rfl (fun s_20 he_22 hz_21 => ?_)
  refine SL.v (.string s_20) ?_
  refine SL.v (.bool true) ?_
  refine SL.nil ?_
  refine CW.ret ?_
  repeat with_reducible first | refine PThen.ret ?_ | refine PBlock.ret ?_
  refine PRet.tmp2 (t := 4) (u := 5) (v := .string s_20) (v' := .bool true) rfl rfl rfl (by kernel_rfl) (by kernel_rfl) ?_
  exact ⟨by rw [he_22], hs_19.gr⟩
set_option maxRecDepth 100000 in
set_option maxHeartbeats 4000000 in
theorem set_8 (c : Cor) (w : World) (hok : c.Ok) (hT : tabT w) : Calls Tryd.prog 5 #[.agg (cvA c), .string ⟨#[36, 126]⟩] w fun e w' => e = .returned (.tuple #[.string (strOf (fmtR ([c.clean.status])) ++ ⟨#[36, 126]⟩), .bool true]) ∧ Gr w w' := by
  have hcm := hok.clean.modes
  have hcl := clean_nice hok
  have hf1 := flag_in c.clean.stream
  have hf2 := flag_in (!c.clean.stream)
  refine calls_sx (n := 89) (args := [.agg (cvA c), .string ⟨#[36, 126]⟩]) Tryd.func5 rfl rfl rfl ?_
  have hs0 := SH.none w
  refine CW.seq ?_
  refine CW.region ?_
  refine SL.newH (mk := fun g => .pointer (some ⟨g, 0, none⟩)) (C := (cvA c)) (T := 43) hs0 rfl rfl (by kernel_rfl) (fun g_1 w_2 hs_3 => ?_)
  have hs_3 : SH [] w w_2 [pt g_1 (cvA c) 43] := hs_3
  refine SL.v (.string ⟨#[]⟩) ?_
  refine SL.v (.bool false) ?_
  refine SL.nil ?_
  refine CW.seq ?_
  refine CW.region ?_
  refine SL.load (g := g_1) (off := 0) (v := .agg (cvA c)) rfl rfl rfl (by kernel_rfl) (hs_3.pt_at (i := 0) rfl) (by kernel_rfl) ?_
  refine SL.call (f := 11) (args := #[.agg (cvA c)]) (w1 := w_2) rfl rfl (by kernel_rfl) (clean_any c w_2 hok) ?_
  rintro x w_4 ⟨rfl, hc_5⟩
  refine ⟨.agg (cvA c.clean), rfl, ?_⟩
  have hs_6 := hs_3.grow hc_5
  refine SL.storeH (i := 0) (g := g_1) (off := 0) (v := .agg (cvA c.clean)) (L' := [pt g_1 (cvA c.clean) 43]) hs_6 rfl rfl rfl (by kernel_rfl) (by kernel_rfl) rfl (by kernel_rfl) (by kernel_rfl) rfl (by kernel_rfl) rfl (fun w_7 hs_8 => ?_)
  refine SL.nil ?_
  refine CW.seq ?_
  refine CW.region ?_
  refine SL.v (.pointer (some ⟨g_1, 13, none⟩)) ?_
  refine SL.v (.pointer (some ⟨g_1, 17, none⟩)) ?_
  refine SL.load (g := g_1) (off := 17) (v := .agg (qStJ_0 c)) rfl rfl rfl (by kernel_rfl) (hs_8.pt_at (i := 0) rfl) (by kernel_rfl) ?_
  refine SL.newH (mk := fun g => .pointer (some ⟨g, 0, none⟩)) (C := (qStJ_1)) (T := 29) hs_8 rfl rfl (by kernel_rfl) (fun g_9 w_10 hs_11 => ?_)
  have hs_11 : SH [] w w_10 [pt g_1 (cvA c.clean) 43, pt g_9 (qStJ_1) 29] := hs_11
  refine SL.storeH (i := 1) (g := g_9) (off := 0) (v := .agg (qStJ_0 c)) (L' := [pt g_1 (cvA c.clean) 43, pt g_9 (qStJ_0 c) 29]) hs_11 rfl rfl rfl (by kernel_rfl) (by kernel_rfl) rfl (by kernel_rfl) (by kernel_rfl) rfl (by kernel_rfl) rfl (fun w_12 hs_13 => ?_)
  refine SL.nil ?_
  refine CW.seq ?_
  refine CW.region ?_
  refine SL.v (.slice none 0 0) ?_
  refine SL.nil ?_
  refine CW.seq ?_
  refine CW.seq ?_
  refine CW.region ?_
  refine SL.v (.string ⟨#[36, 126]⟩) ?_
  refine SL.nil ?_
  refine CW.block ?_
  refine CW.seq ?_
  refine CW.region ?_
  refine SL.val (v := .bool false) (w' := w_12) rfl rfl (run_streqB (a := ⟨#[36, 126]⟩) (b := ⟨#[109]⟩) (c := false) rfl (by kernel_rfl) (by kernel_rfl) (by kernel_rfl)) ?_
  refine SL.v (.bool false) ?_
  refine SL.nil ?_
  refine CW.cond_false (by kernel_rfl) ?_
  refine CW.seq ?_
  refine CW.region ?_
  refine SL.val (v := .bool false) (w' := w_12) rfl rfl (run_streqB (a := ⟨#[36, 126]⟩) (b := ⟨#[114]⟩) (c := false) rfl (by kernel_rfl) (by kernel_rfl) (by kernel_rfl)) ?_
  refine SL.v (.bool false) ?_
  refine SL.nil ?_
  refine CW.cond_false (by kernel_rfl) ?_
  refine CW.seq ?_
  refine CW.region ?_
  refine SL.val (v := .bool false) (w' := w_12) rfl rfl (run_streqB (a := ⟨#[36, 126]⟩) (b := ⟨#[115]⟩) (c := false) rfl (by kernel_rfl) (by kernel_rfl) (by kernel_rfl)) ?_
  refine SL.v (.bool false) ?_
  refine SL.nil ?_
  refine CW.cond_false (by kernel_rfl) ?_
  refine CW.seq ?_
  refine CW.region ?_
  refine SL.val (v := .bool false) (w' := w_12) rfl rfl (run_streqB (a := ⟨#[36, 126]⟩) (b := ⟨#[34, 113]⟩) (c := false) rfl (by kernel_rfl) (by kernel_rfl) (by kernel_rfl)) ?_
  refine SL.v (.bool false) ?_
  refine SL.nil ?_
  refine CW.cond_false (by kernel_rfl) ?_
  refine CW.seq ?_
  refine CW.region ?_
  refine SL.val (v := .bool false) (w' := w_12) rfl rfl (run_streqB (a := ⟨#[36, 126]⟩) (b := ⟨#[34, 112]⟩) (c := false) rfl (by kernel_rfl) (by kernel_rfl) (by kernel_rfl)) ?_
  refine SL.v (.bool false) ?_
  refine SL.nil ?_
  refine CW.cond_false (by kernel_rfl) ?_
  refine CW.seq ?_
  refine CW.region ?_
  refine SL.val (v := .bool false) (w' := w_12) rfl rfl (run_streqB (a := ⟨#[36, 126]⟩) (b := ⟨#[42, 120]⟩) (c := false) rfl (by kernel_rfl) (by kernel_rfl) (by kernel_rfl)) ?_
  refine SL.v (.bool false) ?_
  refine SL.nil ?_
  refine CW.cond_false (by kernel_rfl) ?_
  refine CW.seq ?_
  refine CW.region ?_
  refine SL.val (v := .bool false) (w' := w_12) rfl rfl (run_streqB (a := ⟨#[36, 126]⟩) (b := ⟨#[116]⟩) (c := false) rfl (by kernel_rfl) (by kernel_rfl) (by kernel_rfl)) ?_
  refine SL.v (.bool false) ?_
  refine SL.nil ?_
  refine CW.cond_false (by kernel_rfl) ?_
  refine CW.seq ?_
  refine CW.region ?_
  refine SL.val (v := .bool false) (w' := w_12) rfl rfl (run_streqB (a := ⟨#[36, 126]⟩) (b := ⟨#[36, 124]⟩) (c := false) rfl (by kernel_rfl) (by kernel_rfl) (by kernel_rfl)) ?_
  refine SL.v (.bool false) ?_
  refine SL.nil ?_
  refine CW.cond_false (by kernel_rfl) ?_
  refine CW.seq ?_
  refine CW.region ?_
  refine SL.val (v := .bool true) (w' := w_12) rfl rfl (run_streqB (a := ⟨#[36, 126]⟩) (b := ⟨#[36, 126]⟩) (c := true) rfl (by kernel_rfl) (by kernel_rfl) (by kernel_rfl)) ?_
  refine SL.v (.bool true) ?_
  refine SL.nil ?_
  refine CW.cond_true (by kernel_rfl) ?_
  refine CW.region ?_
  refine SL.v (.pointer (some ⟨g_1, 25, none⟩)) ?_
  refine SL.load (g := g_1) (off := 25) (v := .int .i64 c.clean.status) rfl rfl rfl (by kernel_rfl) (hs_13.pt_at (i := 0) rfl) (by kernel_rfl) ?_
  refine SL.newH (mk := fun g => .slice (some ⟨g, 0, none⟩) 1 1) (C := #[.int .i64 c.clean.status]) (T := 3) hs_13 rfl rfl (by kernel_rfl) (fun g_14 w_15 hs_16 => ?_)
  have hs_16 : SH [] w w_15 [pt g_1 (cvA c.clean) 43, pt g_9 (qStJ_0 c) 29, pt g_14 #[.int .i64 c.clean.status] 3] := hs_16
  refine SL.v (.slice (some ⟨g_14, 0, none⟩) 1 1) ?_
  refine SL.nil ?_
  refine CW.seq ?_
  refine CW.region ?_
  refine SL.v (.slice (some ⟨g_14, 0, none⟩) 1 1) ?_
  refine SL.call (f := 14) (args := #[.slice (some ⟨g_14, 0, none⟩) 1 1]) (w1 := w_15) rfl rfl (by kernel_rfl) (fmt_walk (l := [c.clean.status]) (rd_new (hs_16.pt_at (i := 2) rfl) rfl rfl) (Nat.le_refl _) (hT.gr hs_16.gr)) ?_
  rintro x w_17 ⟨rfl, hc_18⟩
  refine ⟨.string (strOf (fmtR [c.clean.status])), rfl, ?_⟩
  have hs_19 := hs_16.grow hc_18
  refine SL.v (.string ⟨#[36, 126]⟩) ?_
  refine SL.cat (a := strOf (fmtR [c.clean.status])) (b := ⟨#[36, 126]⟩) (p := 6) (q := 2) (r := 8) rfl rfl rfl (by kernel_rfl) (by kernel_rfl) (fmt_sz [c.clean.status] 1 (Nat.le_refl _)) (show (⟨#[36, 126]⟩ : ByteArray).size ≤ 2 from Nat.le_refl 2) (by kernel_rfl) (by kernel_rfl) rfl (fun s_20 he_22 hz_21 => ?_)
  refine SL.v (.string s_20) ?_
  refine SL.v (.bool true) ?_
  refine SL.nil ?_
  refine CW.ret ?_
  repeat with_reducible first | refine PThen.ret ?_ | refine PBlock.ret ?_
  refine PRet.tmp2 (t := 4) (u := 5) (v := .string s_20) (v' := .bool true) rfl rfl rfl (by kernel_rfl) (by kernel_rfl) ?_
  exact ⟨by rw [he_22], hs_19.gr⟩
set_option maxRecDepth 100000 in
set_option maxHeartbeats 4000000 in
theorem set_9 (c : Cor) (w : World) (hok : c.Ok) (hT : tabT w) : Calls Tryd.prog 5 #[.agg (cvA c), .string ⟨#[36, 125]⟩] w fun e w' => e = .returned (.tuple #[.string (strOf (fmtR ([flagZ c.clean.below])) ++ ⟨#[36, 125]⟩), .bool true]) ∧ Gr w w' := by
  have hcm := hok.clean.modes
  have hcl := clean_nice hok
  have hf1 := flag_in c.clean.stream
  have hf2 := flag_in (!c.clean.stream)
  refine calls_sx (n := 89) (args := [.agg (cvA c), .string ⟨#[36, 125]⟩]) Tryd.func5 rfl rfl rfl ?_
  have hs0 := SH.none w
  refine CW.seq ?_
  refine CW.region ?_
  refine SL.newH (mk := fun g => .pointer (some ⟨g, 0, none⟩)) (C := (cvA c)) (T := 43) hs0 rfl rfl (by kernel_rfl) (fun g_1 w_2 hs_3 => ?_)
  have hs_3 : SH [] w w_2 [pt g_1 (cvA c) 43] := hs_3
  refine SL.v (.string ⟨#[]⟩) ?_
  refine SL.v (.bool false) ?_
  refine SL.nil ?_
  refine CW.seq ?_
  refine CW.region ?_
  refine SL.load (g := g_1) (off := 0) (v := .agg (cvA c)) rfl rfl rfl (by kernel_rfl) (hs_3.pt_at (i := 0) rfl) (by kernel_rfl) ?_
  refine SL.call (f := 11) (args := #[.agg (cvA c)]) (w1 := w_2) rfl rfl (by kernel_rfl) (clean_any c w_2 hok) ?_
  rintro x w_4 ⟨rfl, hc_5⟩
  refine ⟨.agg (cvA c.clean), rfl, ?_⟩
  have hs_6 := hs_3.grow hc_5
  refine SL.storeH (i := 0) (g := g_1) (off := 0) (v := .agg (cvA c.clean)) (L' := [pt g_1 (cvA c.clean) 43]) hs_6 rfl rfl rfl (by kernel_rfl) (by kernel_rfl) rfl (by kernel_rfl) (by kernel_rfl) rfl (by kernel_rfl) rfl (fun w_7 hs_8 => ?_)
  refine SL.nil ?_
  refine CW.seq ?_
  refine CW.region ?_
  refine SL.v (.pointer (some ⟨g_1, 13, none⟩)) ?_
  refine SL.v (.pointer (some ⟨g_1, 17, none⟩)) ?_
  refine SL.load (g := g_1) (off := 17) (v := .agg (qStJ_0 c)) rfl rfl rfl (by kernel_rfl) (hs_8.pt_at (i := 0) rfl) (by kernel_rfl) ?_
  refine SL.newH (mk := fun g => .pointer (some ⟨g, 0, none⟩)) (C := (qStJ_1)) (T := 29) hs_8 rfl rfl (by kernel_rfl) (fun g_9 w_10 hs_11 => ?_)
  have hs_11 : SH [] w w_10 [pt g_1 (cvA c.clean) 43, pt g_9 (qStJ_1) 29] := hs_11
  refine SL.storeH (i := 1) (g := g_9) (off := 0) (v := .agg (qStJ_0 c)) (L' := [pt g_1 (cvA c.clean) 43, pt g_9 (qStJ_0 c) 29]) hs_11 rfl rfl rfl (by kernel_rfl) (by kernel_rfl) rfl (by kernel_rfl) (by kernel_rfl) rfl (by kernel_rfl) rfl (fun w_12 hs_13 => ?_)
  refine SL.nil ?_
  refine CW.seq ?_
  refine CW.region ?_
  refine SL.v (.slice none 0 0) ?_
  refine SL.nil ?_
  refine CW.seq ?_
  refine CW.seq ?_
  refine CW.region ?_
  refine SL.v (.string ⟨#[36, 125]⟩) ?_
  refine SL.nil ?_
  refine CW.block ?_
  refine CW.seq ?_
  refine CW.region ?_
  refine SL.val (v := .bool false) (w' := w_12) rfl rfl (run_streqB (a := ⟨#[36, 125]⟩) (b := ⟨#[109]⟩) (c := false) rfl (by kernel_rfl) (by kernel_rfl) (by kernel_rfl)) ?_
  refine SL.v (.bool false) ?_
  refine SL.nil ?_
  refine CW.cond_false (by kernel_rfl) ?_
  refine CW.seq ?_
  refine CW.region ?_
  refine SL.val (v := .bool false) (w' := w_12) rfl rfl (run_streqB (a := ⟨#[36, 125]⟩) (b := ⟨#[114]⟩) (c := false) rfl (by kernel_rfl) (by kernel_rfl) (by kernel_rfl)) ?_
  refine SL.v (.bool false) ?_
  refine SL.nil ?_
  refine CW.cond_false (by kernel_rfl) ?_
  refine CW.seq ?_
  refine CW.region ?_
  refine SL.val (v := .bool false) (w' := w_12) rfl rfl (run_streqB (a := ⟨#[36, 125]⟩) (b := ⟨#[115]⟩) (c := false) rfl (by kernel_rfl) (by kernel_rfl) (by kernel_rfl)) ?_
  refine SL.v (.bool false) ?_
  refine SL.nil ?_
  refine CW.cond_false (by kernel_rfl) ?_
  refine CW.seq ?_
  refine CW.region ?_
  refine SL.val (v := .bool false) (w' := w_12) rfl rfl (run_streqB (a := ⟨#[36, 125]⟩) (b := ⟨#[34, 113]⟩) (c := false) rfl (by kernel_rfl) (by kernel_rfl) (by kernel_rfl)) ?_
  refine SL.v (.bool false) ?_
  refine SL.nil ?_
  refine CW.cond_false (by kernel_rfl) ?_
  refine CW.seq ?_
  refine CW.region ?_
  refine SL.val (v := .bool false) (w' := w_12) rfl rfl (run_streqB (a := ⟨#[36, 125]⟩) (b := ⟨#[34, 112]⟩) (c := false) rfl (by kernel_rfl) (by kernel_rfl) (by kernel_rfl)) ?_
  refine SL.v (.bool false) ?_
  refine SL.nil ?_
  refine CW.cond_false (by kernel_rfl) ?_
  refine CW.seq ?_
  refine CW.region ?_
  refine SL.val (v := .bool false) (w' := w_12) rfl rfl (run_streqB (a := ⟨#[36, 125]⟩) (b := ⟨#[42, 120]⟩) (c := false) rfl (by kernel_rfl) (by kernel_rfl) (by kernel_rfl)) ?_
  refine SL.v (.bool false) ?_
  refine SL.nil ?_
  refine CW.cond_false (by kernel_rfl) ?_
  refine CW.seq ?_
  refine CW.region ?_
  refine SL.val (v := .bool false) (w' := w_12) rfl rfl (run_streqB (a := ⟨#[36, 125]⟩) (b := ⟨#[116]⟩) (c := false) rfl (by kernel_rfl) (by kernel_rfl) (by kernel_rfl)) ?_
  refine SL.v (.bool false) ?_
  refine SL.nil ?_
  refine CW.cond_false (by kernel_rfl) ?_
  refine CW.seq ?_
  refine CW.region ?_
  refine SL.val (v := .bool false) (w' := w_12) rfl rfl (run_streqB (a := ⟨#[36, 125]⟩) (b := ⟨#[36, 124]⟩) (c := false) rfl (by kernel_rfl) (by kernel_rfl) (by kernel_rfl)) ?_
  refine SL.v (.bool false) ?_
  refine SL.nil ?_
  refine CW.cond_false (by kernel_rfl) ?_
  refine CW.seq ?_
  refine CW.region ?_
  refine SL.val (v := .bool false) (w' := w_12) rfl rfl (run_streqB (a := ⟨#[36, 125]⟩) (b := ⟨#[36, 126]⟩) (c := false) rfl (by kernel_rfl) (by kernel_rfl) (by kernel_rfl)) ?_
  refine SL.v (.bool false) ?_
  refine SL.nil ?_
  refine CW.cond_false (by kernel_rfl) ?_
  refine CW.seq ?_
  refine CW.region ?_
  refine SL.val (v := .bool true) (w' := w_12) rfl rfl (run_streqB (a := ⟨#[36, 125]⟩) (b := ⟨#[36, 125]⟩) (c := true) rfl (by kernel_rfl) (by kernel_rfl) (by kernel_rfl)) ?_
  refine SL.v (.bool true) ?_
  refine SL.nil ?_
  refine CW.cond_true (by kernel_rfl) ?_
  refine CW.region ?_
  refine SL.v (.pointer (some ⟨g_1, 26, none⟩)) ?_
  refine SL.load (g := g_1) (off := 26) (v := .bool c.clean.below) rfl rfl rfl (by kernel_rfl) (hs_13.pt_at (i := 0) rfl) (by kernel_rfl) ?_
  refine SL.call (f := 13) (args := #[.bool c.clean.below]) (w1 := w_12) rfl rfl (by kernel_rfl) (flag_any c.clean.below w_12) ?_
  rintro x w_14 ⟨rfl, hc_15⟩
  refine ⟨.int .i64 (flagZ c.clean.below), rfl, ?_⟩
  have hs_16 := hs_13.grow hc_15
  refine SL.newH (mk := fun g => .slice (some ⟨g, 0, none⟩) 1 1) (C := #[.int .i64 (flagZ c.clean.below)]) (T := 3) hs_16 rfl rfl (by kernel_rfl) (fun g_17 w_18 hs_19 => ?_)
  have hs_19 : SH [] w w_18 [pt g_1 (cvA c.clean) 43, pt g_9 (qStJ_0 c) 29, pt g_17 #[.int .i64 (flagZ c.clean.below)] 3] := hs_19
  refine SL.v (.slice (some ⟨g_17, 0, none⟩) 1 1) ?_
  refine SL.nil ?_
  refine CW.seq ?_
  refine CW.region ?_
  refine SL.v (.slice (some ⟨g_17, 0, none⟩) 1 1) ?_
  refine SL.call (f := 14) (args := #[.slice (some ⟨g_17, 0, none⟩) 1 1]) (w1 := w_18) rfl rfl (by kernel_rfl) (fmt_walk (l := [flagZ c.clean.below]) (rd_new (hs_19.pt_at (i := 2) rfl) rfl rfl) (Nat.le_refl _) (hT.gr hs_19.gr)) ?_
  rintro x w_20 ⟨rfl, hc_21⟩
  refine ⟨.string (strOf (fmtR [flagZ c.clean.below])), rfl, ?_⟩
  have hs_22 := hs_19.grow hc_21
  refine SL.v (.string ⟨#[36, 125]⟩) ?_
  refine SL.cat (a := strOf (fmtR [flagZ c.clean.below])) (b := ⟨#[36, 125]⟩) (p := 6) (q := 2) (r := 8) rfl rfl rfl (by kernel_rfl) (by kernel_rfl) (fmt_sz [flagZ c.clean.below] 1 (Nat.le_refl _)) (show (⟨#[36, 125]⟩ : ByteArray).size ≤ 2 from Nat.le_refl 2) (by kernel_rfl) (by kernel_rfl) rfl (fun s_23 he_25 hz_24 => ?_)
  refine SL.v (.string s_23) ?_
  refine SL.v (.bool true) ?_
  refine SL.nil ?_
  refine CW.ret ?_
  repeat with_reducible first | refine PThen.ret ?_ | refine PBlock.ret ?_
  refine PRet.tmp2 (t := 4) (u := 5) (v := .string s_23) (v' := .bool true) rfl rfl rfl (by kernel_rfl) (by kernel_rfl) ?_
  exact ⟨by rw [he_25], hs_22.gr⟩
end Go.Proofs.YthfipedfoofobaaDoor
