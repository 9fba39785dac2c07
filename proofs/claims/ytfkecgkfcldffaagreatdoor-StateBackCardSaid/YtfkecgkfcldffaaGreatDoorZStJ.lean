/-
 A setting of a state, the program (gen_sti.py).
-/
import Derived.Test.YtfkecgkfcldffaaGreatDoorZStI
namespace Go.Proofs.YtfkecgkfcldffaaGreatDoor
set_option linter.unusedSimpArgs false
set_option linter.unusedVariables false
open Go.RowKit
set_option linter.unusedVariables false

abbrev qStJ_0 (c : Cor) : Array Value := #[iv c.clean.mt, iv c.clean.ml, iv c.clean.mb, iv c.clean.mr]
abbrev qStJ_1  : Array Value := #[iv 0, iv 0, iv 0, iv 0]
set_option maxRecDepth 100000 in
set_option maxHeartbeats 4000000 in
theorem set_1 (c : Cor) (w : World) (hok : c.Ok) (hT : tabT w) : Calls Tryz.prog 17 #[.agg (cvA c), .string ⟨#[114]⟩] w fun e w' => e = .returned (.tuple #[.string (strOf (fmtR ([c.clean.mt + 1, c.clean.mb])) ++ ⟨#[114]⟩), .bool true]) ∧ Gr w w' := by
 have hcm := hok.clean.modes
 have hcl := clean_nice hok
 have hf1 := flag_in c.clean.stream
 have hf2 := flag_in (!c.clean.stream)
 refine calls_sx (n := 89) (args := [.agg (cvA c), .string ⟨#[114]⟩]) Tryz.func17 rfl rfl rfl ?_
 have hs0 := SH.none w
 refine CW.seq ?_
 refine CW.region ?_
 refine SL.newH (mk := fun g => pv g 0) (C := (cvA c)) (T := 45) hs0 rfl rfl (by kernel_rfl) (fun g_1 w_2 hs_3 => ?_)
 have hs_3 : SH [] w w_2 [pt g_1 (cvA c) 45] := hs_3
 refine SL.v (.string ⟨#[]⟩) ?_
 refine SL.v (.bool false) ?_
 refine SL.nil ?_
 refine CW.seq ?_
 refine CW.region ?_
 refine SL.load (g := g_1) (off := 0) (v := .agg (cvA c)) rfl rfl rfl (by kernel_rfl) (hs_3.pt_at (i := 0) rfl) (by kernel_rfl) ?_
 refine SL.call (f := 20) (args := #[.agg (cvA c)]) (w1 := w_2) rfl rfl (by kernel_rfl) (clean_any c w_2 hok) ?_
 rintro x w_4 ⟨rfl, hc_5⟩
 refine ⟨_, rfl, ?_⟩
 have hs_6 := hs_3.grow hc_5
 refine SL.storeH (i := 0) (g := g_1) (off := 0) (v := .agg (cvA c.clean)) (L' := [pt g_1 (cvA c.clean) 45]) hs_6 rfl rfl rfl (by kernel_rfl) (by kernel_rfl) rfl (by kernel_rfl) (by kernel_rfl) rfl (by kernel_rfl) rfl (fun w_7 hs_8 => ?_)
 refine SL.nil ?_
 refine CW.seq ?_
 refine CW.region ?_
 refine SL.v (pv g_1 13) ?_
 refine SL.v (pv g_1 17) ?_
 refine SL.load (g := g_1) (off := 17) (v := .agg (qStJ_0 c)) rfl rfl rfl (by kernel_rfl) (hs_8.pt_at (i := 0) rfl) (by kernel_rfl) ?_
 refine SL.newH (mk := fun g => pv g 0) (C := (qStJ_1)) (T := 29) hs_8 rfl rfl (by kernel_rfl) (fun g_9 w_10 hs_11 => ?_)
 have hs_11 : SH [] w w_10 [pt g_1 (cvA c.clean) 45, pt g_9 (qStJ_1) 29] := hs_11
 refine SL.storeH (i := 1) (g := g_9) (off := 0) (v := .agg (qStJ_0 c)) (L' := [pt g_1 (cvA c.clean) 45, pt g_9 (qStJ_0 c) 29]) hs_11 rfl rfl rfl (by kernel_rfl) (by kernel_rfl) rfl (by kernel_rfl) (by kernel_rfl) rfl (by kernel_rfl) rfl (fun w_12 hs_13 => ?_)
 refine SL.nil ?_
 refine CW.seq ?_
 refine CW.region ?_
 refine SL.v (.slice none 0 0) ?_
 refine SL.nil ?_
 refine CW.seq ?_
 refine CW.seq ?_
 refine CW.region ?_
 refine SL.v (.string ⟨#[114]⟩) ?_
 refine SL.nil ?_
 refine CW.block ?_
 refine CW.seq ?_
 refine CW.region ?_
 refine SL.val (v := .bool false) (w' := w_12) rfl rfl (run_streqB (a := ⟨#[114]⟩) (b := ⟨#[109]⟩) (c := false) rfl (by kernel_rfl) (by kernel_rfl) (by kernel_rfl)) ?_
 refine SL.v (.bool false) ?_
 refine SL.nil ?_
 refine CW.cond_false (by kernel_rfl) ?_
 refine CW.seq ?_
 refine CW.region ?_
 refine SL.val (v := .bool true) (w' := w_12) rfl rfl (run_streqB (a := ⟨#[114]⟩) (b := ⟨#[114]⟩) (c := true) rfl (by kernel_rfl) (by kernel_rfl) (by kernel_rfl)) ?_
 refine SL.v (.bool true) ?_
 refine SL.nil ?_
 refine CW.cond_true (by kernel_rfl) ?_
 refine CW.region ?_
 refine SL.v (pv g_9 0) ?_
 refine SL.load (g := g_9) (off := 0) (v := iv c.clean.mt) rfl rfl rfl (by kernel_rfl) (hs_13.pt_at (i := 1) rfl) (by kernel_rfl) ?_
 refine SL.val (v := iv (c.clean.mt + 1)) (w' := w_12) rfl rfl (by have hw : IntKind.i64.wrap (c.clean.mt + 1) = c.clean.mt + 1 := IntWalk.i64_in _ (by omega); exact run_eqv (by kernel_rfl) (congrArg (fun z => Value.int .i64 z) hw)) ?_
 refine SL.v (pv g_9 2) ?_
 refine SL.load (g := g_9) (off := 2) (v := iv c.clean.mb) rfl rfl rfl (by kernel_rfl) (hs_13.pt_at (i := 1) rfl) (by kernel_rfl) ?_
 refine SL.newH (mk := fun g => sv g 0 2 2) (C := #[iv (c.clean.mt + 1), iv c.clean.mb]) (T := 3) hs_13 rfl rfl (by kernel_rfl) (fun g_14 w_15 hs_16 => ?_)
 have hs_16 : SH [] w w_15 [pt g_1 (cvA c.clean) 45, pt g_9 (qStJ_0 c) 29, pt g_14 #[iv (c.clean.mt + 1), iv c.clean.mb] 3] := hs_16
 refine SL.v (sv g_14 0 2 2) ?_
 refine SL.nil ?_
 refine CW.seq ?_
 refine CW.region ?_
 refine SL.v (sv g_14 0 2 2) ?_
 refine SL.call (f := 23) (args := #[sv g_14 0 2 2]) (w1 := w_15) rfl rfl (by kernel_rfl) (fmt_walk (l := [c.clean.mt + 1, c.clean.mb]) (rd_new (hs_16.pt_at (i := 2) rfl) rfl rfl) (Nat.le_refl _) (hT.gr hs_16.gr)) ?_
 rintro x w_17 ⟨rfl, hc_18⟩
 refine ⟨_, rfl, ?_⟩
 have hs_19 := hs_16.grow hc_18
 refine SL.v (.string ⟨#[114]⟩) ?_
 refine SL.cat (a := strOf (fmtR [c.clean.mt + 1, c.clean.mb])) (b := ⟨#[114]⟩) (p := 12) (q := 1) (r := 13) rfl rfl rfl (by kernel_rfl) (by kernel_rfl) (fmt_sz [c.clean.mt + 1, c.clean.mb] 2 (Nat.le_refl _)) (show (⟨#[114]⟩ : ByteArray).size ≤ 1 from Nat.le_refl 1) (by kernel_rfl) (by kernel_rfl) rfl (fun s_20 he_22 hz_21 => ?_)
 refine SL.v (.string s_20) ?_
 refine SL.v (.bool true) ?_
 refine SL.nil ?_
 refine CW.ret ?_
 repeat with_reducible first | refine PThen.ret ?_ | refine PBlock.ret ?_
 refine PRet.tmp2 (t := 4) (u := 5) (v := .string s_20) (v' := .bool true) rfl rfl rfl (by kernel_rfl) (by kernel_rfl) ?_
 exact ⟨by rw [he_22], hs_19.gr⟩
end Go.Proofs.YtfkecgkfcldffaaGreatDoor
